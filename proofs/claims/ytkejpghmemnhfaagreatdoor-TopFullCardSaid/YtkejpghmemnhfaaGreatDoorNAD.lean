/- A part of the proof: AbTE, AbTF, AbTG, AbTH, AbTI, AbTJ, AbTK, AbX1, AbZG, AbV1, AbV2, AbV3, AbV4. -/
import Derived.Test.YtkejpghmemnhfaaGreatDoorNAC
import Derived.Test.YtkejpghmemnhfaaGreatDoorNAB
import Derived.Test.YtkejpghmemnhfaaGreatDoorProg
import Derived.KernelRfl
import Derived.Lib.Bytealg

set_option linter.unusedVariables false
set_option linter.unusedSimpArgs false

namespace Go.Ab
theorem within_bit {a b i : Nat} (h : within a b = true) (hi : a.testBit i = true) : b.testBit i = true := by
  have h1 : a &&& b = a := beq_true h
  have h2 : (a &&& b).testBit i = true := by rw [h1]; exact hi
  rw [Nat.testBit_and, hi, Bool.true_and] at h2
  exact h2
theorem beq_false' {a b : Nat} (h : Nat.beq a b = false) : a ≠ b := fun c => by rw [c, show Nat.beq b b = true from Nat.beq_refl b] at h; cases h
theorem addAll_get : ∀ {l : News} {h : T AObj} {id : Nat} {o : AObj}, (addAll h l).get id = some o → (id, o) ∈ l ∨ h.get id = some o := by
  intro l
  induction l with
  | nil => intro h id o hg; exact .inr hg
  | cons p l ih =>
    intro h id o hg
    obtain ⟨i, x⟩ := p
    simp only [addAll] at hg
    rcases ih hg with h1 | h1
    · exact .inl (List.mem_cons_of_mem _ h1)
    · rw [T.get_set] at h1
      by_cases e : id = i
      · rw [if_pos e] at h1; injection h1 with h1; subst h1; subst e; exact .inl (by simp)
      · rw [if_neg e] at h1; exact .inr h1
theorem heapFor_get {anc : Nat} : ∀ {p : List (Nat × News)} {base : T AObj} {id : Nat} {o : AObj}, (heapFor base anc p).get id = some o → (∃ i l, (i, l) ∈ p ∧ anc.testBit i = true ∧ (id, o) ∈ l) ∨ base.get id = some o := by
  intro p
  induction p with
  | nil => intro base id o h; exact .inr h
  | cons q p ih =>
    intro base id o h
    obtain ⟨i, l⟩ := q
    simp only [heapFor] at h
    split at h
    · rename_i hb
      rcases ih h with ⟨j, m, h1, h2, h3⟩ | h1
      · exact .inl ⟨j, m, List.mem_cons_of_mem _ h1, h2, h3⟩
      · rcases addAll_get h1 with h2 | h2
        · exact .inl ⟨i, l, by simp, hb, h2⟩
        · exact .inr h2
    · rcases ih h with ⟨j, m, h1, h2, h3⟩ | h1
      · exact .inl ⟨j, m, List.mem_cons_of_mem _ h1, h2, h3⟩
      · exact .inr h1
theorem heapAll_get : ∀ {p : List (Nat × News)} {base : T AObj} {id : Nat} {o : AObj}, (heapAll base p).get id = some o → (∃ i l, (i, l) ∈ p ∧ (id, o) ∈ l) ∨ base.get id = some o := by
  intro p
  induction p with
  | nil => intro base id o h; exact .inr h
  | cons q p ih =>
    intro base id o h
    obtain ⟨i, l⟩ := q
    simp only [heapAll] at h
    rcases ih h with ⟨j, m, h1, h3⟩ | h1
    · exact .inl ⟨j, m, List.mem_cons_of_mem _ h1, h3⟩
    · rcases addAll_get h1 with h2 | h2
      · exact .inl ⟨i, l, by simp, h2⟩
      · exact .inr h2
theorem pendRest_mem {anc : Nat} : ∀ {p : List (Nat × News)} {i : Nat} {l : News}, (i, l) ∈ pendRest anc p → (i, l) ∈ p ∧ anc.testBit i = false := by
  intro p
  induction p with
  | nil => intro i l h; cases h
  | cons q p ih =>
    intro i l h
    obtain ⟨j, m⟩ := q
    simp only [pendRest] at h
    split at h
    · obtain ⟨a, b⟩ := ih h; exact ⟨List.mem_cons_of_mem _ a, b⟩
    · rename_i hb
      rcases List.mem_cons.1 h with h | h
      · injection h with h1 h2; subst h1; subst h2; exact ⟨by simp, hb⟩
      · obtain ⟨a, b⟩ := ih h; exact ⟨List.mem_cons_of_mem _ a, b⟩
theorem collect_mem {h : T AObj} : ∀ {n i id : Nat} {o : AObj}, (id, o) ∈ collect h i n → h.get id = some o ∧ i ≤ id ∧ id < i + n := by
  intro n
  induction n with
  | zero => intro i id o h; cases h
  | succ n ih =>
    intro i id o hm
    simp only [collect] at hm
    split at hm
    · rename_i x hx
      rcases List.mem_cons.1 hm with hm | hm
      · injection hm with h1 h2; subst h1; subst h2; exact ⟨hx, Nat.le_refl _, by omega⟩
      · obtain ⟨a, b, c⟩ := ih hm; exact ⟨a, by omega, by omega⟩
    · obtain ⟨a, b, c⟩ := ih hm; exact ⟨a, by omega, by omega⟩
theorem newsOf_mem {i : Nat} {v : AV} {h : T AObj} {n n' : Nat} {p : List (Nat × News)} {j : Nat} {l : News} (hm : (j, l) ∈ newsOf i v h n n' p) : (j, l) ∈ p ∨ (j = i ∧ l = collect h n (n' - n)) := by
  unfold newsOf at hm
  split at hm
  · exact .inl hm
  · rcases List.mem_cons.1 hm with hm | hm
    · injection hm with h1 h2; exact .inr ⟨h1, h2⟩
    · exact .inl hm
noncomputable def DR.st (s : DR) (h : T AObj) (low : Nat) : St := { heap := h, next := s.next, low := low, sc := s.sc, tr := s.tr }
inductive Kd where
  | quiet
  | load
  | alloc
  | soft
  | hard
  deriving DecidableEq
inductive DOp (call : CallV) (i : Nat) (o : COper) (s : DR) : Kd → AV → DR → Prop
  | pure (v : AV) (st : St) (h0 : opClass o.op = 0) (h : evOp o.op s.tm (s.st .leaf s.low) call = .ok (v, st)) : DOp call i o s .quiet v { s with sc := st.sc, tr := st.tr }
  | alloc (v : AV) (st : St) (h : evOp o.op s.tm (s.st .leaf s.next) call = .ok (v, st)) (hl : s.next ≤ st.low) :
    DOp call i o s .alloc v { s with pend := newsOf i v st.heap s.next st.next s.pend, next := st.next, sc := st.sc, tr := st.tr }
  | load (x : CA) (n : Option Nat) (v : AV) (ha : asLoad o.op = some (x, n)) (h : loadAt s.base (evA s.tm x) n = some v) :
    DOp call i o s .load v { s with loads := { j := i, anc := o.anc, p := evA s.tm x, n := n, v := v } :: s.loads }
  | soft (v : AV) (st : St) (h : evOp o.op s.tm (s.st (heapFor s.base o.anc s.pend) s.next) call = .ok (v, st)) (hw : within s.hmask o.anc = true) (hl : s.next ≤ st.low) :
    DOp call i o s .soft v { s with pend := newsOf i v st.heap s.next st.next s.pend, softs := Nat.lor s.softs (Nat.pow 2 i), next := st.next, sc := st.sc, tr := st.tr }
  | hard (v : AV) (st : St) (h : evOp o.op s.tm (s.st (heapFor s.base o.anc s.pend) s.next) call = .ok (v, st)) (hw : within s.hmask o.anc = true) (hs : within s.softs o.anc = true) :
    DOp call i o s .hard v { s with
          base := st.heap, bases := s.base :: s.bases, pend := pendRest o.anc s.pend, softs := 0, hmask := Nat.lor s.hmask (Nat.pow 2 i), hards := (i, o.anc) :: s.hards,
          next := st.next, low := lowered s.low st.low, sc := st.sc, tr := st.tr }
section
variable {call : CallV} {i : Nat} {o : COper} {s s' : DR} {v : AV}
theorem evMany_DOp (h : evMany call i o s = .ok (v, s')) : ∃ k, DOp call i o s k v s' := by
  unfold evMany at h
  split at h
  · cases h
  · rename_i v1 st1 he
    split at h
    · cases h
    · rename_i hw
      split at h
      · rename_i hl
        simp only [Except.ok.injEq, Prod.mk.injEq] at h
        obtain ⟨rfl, rfl⟩ := h
        exact ⟨.soft, .soft _ _ he hw (Nat.le_of_ble_eq_true hl)⟩
      · split at h
        · cases h
        · rename_i hs
          simp only [Except.ok.injEq, Prod.mk.injEq] at h
          obtain ⟨rfl, rfl⟩ := h
          exact ⟨.hard, .hard _ _ he hw hs⟩
theorem evDrawOp_DOp (h : evDrawOp call i o s = .ok (v, s')) : ∃ k, DOp call i o s k v s' := by
  unfold evDrawOp at h
  split at h
  · rename_i h0
    unfold evPureR at h
    split at h
    · cases h
    · rename_i v1 st1 he
      simp only [Except.ok.injEq, Prod.mk.injEq] at h
      obtain ⟨rfl, rfl⟩ := h
      exact ⟨.quiet, .pure _ _ h0 he⟩
  · unfold evAlloc at h
    split at h
    · cases h
    · rename_i v1 st1 he
      split at h
      · rename_i hl
        simp only [Except.ok.injEq, Prod.mk.injEq] at h
        obtain ⟨rfl, rfl⟩ := h
        exact ⟨.alloc, .alloc _ _ he (Nat.le_of_ble_eq_true hl)⟩
      · cases h
  · split at h
    · rename_i x n ha
      unfold evLoadR at h
      split at h
      · rename_i v1 hl
        simp only [Except.ok.injEq, Prod.mk.injEq] at h
        obtain ⟨rfl, rfl⟩ := h
        exact ⟨.load, .load x n _ ha hl⟩
      · exact evMany_DOp h
    · exact evMany_DOp h
end
inductive DStep (call : CallV) (i : Nat) (o : COper) (s : DR) : Kd → AV → DR → Prop
  | skip (st1 : St) (h : wantK o.guard s.tm (s.st .leaf s.low) (fun b st => .ok (b, st)) = .ok (false, st1)) : DStep call i o s .quiet undef { s with tm := putD s.tm o.dst undef, sc := st1.sc, tr := st1.tr }
  | run (st1 : St) (k : Kd) (v : AV) (s1 : DR) (h : wantK o.guard s.tm (s.st .leaf s.low) (fun b st => .ok (b, st)) = .ok (true, st1)) (hd : DOp call i o { s with sc := st1.sc, tr := st1.tr } k v s1) :
    DStep call i o s k v { s1 with tm := putD s1.tm o.dst v }
theorem wantK_split {β : Type} {g : Option (CA × Bool)} {tm : T AV} {st : St} {K : Bool → St → M β} {r : β} (h : wantK g tm st K = .ok r) :
    ∃ b st1, wantK g tm st (fun b st => .ok (b, st)) = .ok (b, st1) ∧ K b st1 = .ok r := by
  unfold wantK at h ⊢
  split at h
  · exact ⟨true, st, rfl, h⟩
  · rename_i x want
    simp only [evAK_eq] at h ⊢
    unfold wantV at h ⊢
    split at h
    · exact ⟨_, st, rfl, h⟩
    · unfold decK at h ⊢
      simp only at h ⊢
      split at h
      · exact ⟨_, _, rfl, h⟩
      · cases h
    · cases h
    · exact ⟨false, st, rfl, h⟩
theorem evDraw_trace {call : CallV} : ∀ (l : List COper) (i : Nat) (s s' : DR), evDraw call l i s = .ok s' →
    ∃ (S : Nat → DR) (K : Nat → Kd) (V : Nat → AV), S i = s ∧ S (i + l.length) = s' ∧ ∀ k o, l[k]? = some o → DStep call (i + k) o (S (i + k)) (K (i + k)) (V (i + k)) (S (i + k + 1)) := by
  intro l
  induction l with
  | nil => intro i s s' h; simp only [evDraw, Except.ok.injEq] at h; subst h; exact ⟨fun _ => s, fun _ => .quiet, fun _ => undef, rfl, rfl, fun k o h => by simp at h⟩
  | cons o l ih =>
    intro i s s' h
    have key : ∃ k v s1, DStep call i o s k v s1 ∧ evDraw call l (i + 1) s1 = .ok s' := by
      simp only [evDraw] at h
      obtain ⟨b, st1, hw, hk⟩ := wantK_split h
      cases b with
      | false => simp only [putK_eq] at hk; exact ⟨.quiet, undef, _, .skip st1 hw, hk⟩
      | true =>
        simp only at hk
        split at hk
        · rename_i v s1 he
          simp only [putK_eq] at hk
          obtain ⟨k, hd⟩ := evDrawOp_DOp he
          exact ⟨k, v, _, .run st1 k v s1 hw hd, hk⟩
        · cases hk
    obtain ⟨k, v, s1, hst, hrest⟩ := key
    obtain ⟨S, K, V, h0, h1, h2⟩ := ih (i + 1) s1 s' hrest
    refine ⟨fun j => if j ≤ i then s else S j, fun j => if j = i then k else K j, fun j => if j = i then v else V j, by simp, ?_, fun n p hp => ?_⟩
    · simp only [List.length_cons]
      rw [if_neg (by omega), ← h1]
      congr 1; omega
    · cases n with
      | zero =>
        simp only [List.getElem?_cons_zero, Option.some.injEq] at hp
        subst hp
        simp only [Nat.add_zero, Nat.le_refl, if_true]
        rw [if_neg (by omega), h0]
        exact hst
      | succ n =>
        simp only [List.getElem?_cons_succ] at hp
        have := h2 n p hp
        dsimp only
        rw [if_neg (by omega), if_neg (by omega), if_neg (by omega), if_neg (by omega)]
        have e : i + (n + 1) = i + 1 + n := by omega
        rw [e]; exact this
end Go.Ab

namespace Go.Ab
structure Tr (call : CallV) (cops : List COper) (S : Nat → DR) (K : Nat → Kd) (V : Nat → AV) : Prop where
  step : ∀ i o, cops[i]? = some o → DStep call i o (S i) (K i) (V i) (S (i + 1))
  pend0 : (S 0).pend = []
  hards0 : (S 0).hards = []
  bases0 : (S 0).bases = []
def ancAt (cops : List COper) (i : Nat) : Nat := (cops[i]?.map (·.anc)).getD 0
def dstAt (cops : List COper) (i : Nat) : Option Nat := (cops[i]?).bind (·.dst)
theorem ancAt_eq {cops : List COper} {i : Nat} {o : COper} (h : cops[i]? = some o) : ancAt cops i = o.anc := by simp [ancAt, h]
theorem dstAt_eq {cops : List COper} {i : Nat} {o : COper} (h : cops[i]? = some o) : dstAt cops i = o.dst := by simp [dstAt, h]
section
variable {call : CallV} {cops : List COper} {S : Nat → DR} {K : Nat → Kd} {V : Nat → AV}
theorem get_lt {i : Nat} (h : i < cops.length) : ∃ o, cops[i]? = some o := ⟨cops[i], List.getElem?_eq_getElem h⟩
theorem Tr.quiet (T : Tr call cops S K V) {i : Nat} (hi : i < cops.length) (hk : K i = .quiet ∨ K i = .load) :
    (S (i + 1)).base = (S i).base ∧ (S (i + 1)).bases = (S i).bases ∧ (S (i + 1)).pend = (S i).pend ∧ (S (i + 1)).softs = (S i).softs ∧ (S (i + 1)).hmask = (S i).hmask ∧ (S (i + 1)).hards = (S i).hards ∧ (S (i + 1)).next = (S i).next := by
  obtain ⟨o, ho⟩ := get_lt hi
  have := T.step i o ho
  generalize K i = k at *
  generalize V i = v at *
  generalize S (i + 1) = s' at *
  generalize S i = s at *
  cases this with
  | skip => exact ⟨rfl, rfl, rfl, rfl, rfl, rfl, rfl⟩
  | run st1 _ _ s1 hw hd =>
    cases hd <;> first | exact ⟨rfl, rfl, rfl, rfl, rfl, rfl, rfl⟩ | (exfalso; rcases hk with hk | hk <;> cases hk)
theorem Tr.notHard (T : Tr call cops S K V) {i : Nat} (hi : i < cops.length) (hk : K i ≠ .hard) :
    (S (i + 1)).base = (S i).base ∧ (S (i + 1)).bases = (S i).bases ∧ (S (i + 1)).hmask = (S i).hmask ∧ (S (i + 1)).hards = (S i).hards ∧ (∀ j, (S i).softs.testBit j = true → (S (i + 1)).softs.testBit j = true) := by
  obtain ⟨o, ho⟩ := get_lt hi
  have := T.step i o ho
  generalize K i = k at *
  generalize V i = v at *
  generalize S (i + 1) = s' at *
  generalize S i = s at *
  cases this with
  | skip => exact ⟨rfl, rfl, rfl, rfl, fun _ h => h⟩
  | run st1 _ _ s1 hw hd =>
    cases hd with
    | hard => exact absurd rfl hk
    | soft => exact ⟨rfl, rfl, rfl, rfl, fun j h => by show (s.softs ||| 2 ^ i).testBit j = true; rw [Nat.testBit_or, h]; rfl⟩
    | _ => exact ⟨rfl, rfl, rfl, rfl, fun _ h => h⟩
theorem Tr.isHard (T : Tr call cops S K V) {i : Nat} (hi : i < cops.length) (hk : K i = .hard) :
    (S (i + 1)).bases = (S i).base :: (S i).bases ∧ (S (i + 1)).hmask = Nat.lor (S i).hmask (Nat.pow 2 i) ∧ (S (i + 1)).hards = (i, ancAt cops i) :: (S i).hards ∧ (S (i + 1)).pend = pendRest (ancAt cops i) (S i).pend ∧
      within (S i).hmask (ancAt cops i) = true ∧ within (S i).softs (ancAt cops i) = true := by
  obtain ⟨o, ho⟩ := get_lt hi
  have := T.step i o ho
  rw [ancAt_eq ho]
  generalize K i = k at *
  generalize V i = v at *
  generalize S (i + 1) = s' at *
  generalize S i = s at *
  cases this with
  | skip => cases hk
  | run st1 _ _ s1 hw hd =>
    cases hd <;> first | exact ⟨rfl, rfl, rfl, rfl, by assumption, by assumption⟩ | (exfalso; cases hk)
theorem Tr.isSoft (T : Tr call cops S K V) {i : Nat} (hi : i < cops.length) (hk : K i = .soft) :
    (S (i + 1)).softs = Nat.lor (S i).softs (Nat.pow 2 i) ∧ within (S i).hmask (ancAt cops i) = true := by
  obtain ⟨o, ho⟩ := get_lt hi
  have := T.step i o ho
  rw [ancAt_eq ho]
  generalize K i = k at *
  generalize V i = v at *
  generalize S (i + 1) = s' at *
  generalize S i = s at *
  cases this with
  | skip => cases hk
  | run st1 _ _ s1 hw hd =>
    cases hd <;> first | exact ⟨rfl, by assumption⟩ | (exfalso; cases hk)
theorem Tr.pendStep (T : Tr call cops S K V) {i : Nat} (hi : i < cops.length) {j : Nat} {l : News} (h : (j, l) ∈ (S (i + 1)).pend) :
    ((j, l) ∈ (S i).pend ∧ (K i = .hard → (ancAt cops i).testBit j = false)) ∨ (j = i ∧ (K i = .alloc ∨ K i = .soft) ∧ ∃ hp, l = collect hp (S i).next ((S (i + 1)).next - (S i).next)) := by
  obtain ⟨o, ho⟩ := get_lt hi
  have := T.step i o ho
  rw [ancAt_eq ho]
  generalize K i = k at *
  generalize V i = v at *
  generalize S (i + 1) = s' at *
  generalize S i = s at *
  cases this with
  | skip => exact .inl ⟨h, fun c => by cases c⟩
  | run st1 _ _ s1 hw hd =>
    cases hd with
    | hard => obtain ⟨a, b⟩ := pendRest_mem h; exact .inl ⟨a, fun _ => b⟩
    | pure => exact .inl ⟨h, fun c => by cases c⟩
    | load => exact .inl ⟨h, fun c => by cases c⟩
    | alloc v st =>
      rcases newsOf_mem h with h | ⟨rfl, rfl⟩
      · exact .inl ⟨h, fun c => by cases c⟩
      · exact .inr ⟨rfl, .inl rfl, _, rfl⟩
    | soft v st =>
      rcases newsOf_mem h with h | ⟨rfl, rfl⟩
      · exact .inl ⟨h, fun c => by cases c⟩
      · exact .inr ⟨rfl, .inr rfl, _, rfl⟩
theorem Tr.pend (T : Tr call cops S K V) : ∀ j, j ≤ cops.length → ∀ k l, (k, l) ∈ (S j).pend → k < j ∧ (k, l) ∈ (S (k + 1)).pend ∧ ∀ h, k < h → h < j → K h = .hard → (ancAt cops h).testBit k = false := by
  intro j
  induction j with
  | zero => intro _ k l h; rw [T.pend0] at h; cases h
  | succ j ih =>
    intro hj k l h
    rcases T.pendStep (by omega) h with ⟨h1, h2⟩ | ⟨rfl, h2, _⟩
    · obtain ⟨a, b, c⟩ := ih (by omega) k l h1
      refine ⟨by omega, b, fun x hx hxj hk => ?_⟩
      by_cases e : x = j
      · subst e; exact h2 hk
      · exact c x hx (by omega) hk
    · exact ⟨by omega, h, fun x hx hxj => by omega⟩
def NewsAt (S : Nat → DR) (i id : Nat) (o : AObj) : Prop := ∃ l, (i, l) ∈ (S (i + 1)).pend ∧ (id, o) ∈ l
theorem Tr.news (T : Tr call cops S K V) {i : Nat} (hi : i < cops.length) {id : Nat} {o : AObj} (h : NewsAt S i id o) : (K i = .alloc ∨ K i = .soft) ∧ (S i).next ≤ id ∧ id < (S (i + 1)).next := by
  obtain ⟨l, hl, ho⟩ := h
  rcases T.pendStep hi hl with ⟨h1, _⟩ | ⟨_, h2, hp, rfl⟩
  · exact absurd (T.pend i (by omega) _ _ h1).1 (Nat.lt_irrefl _)
  · obtain ⟨_, a, b⟩ := collect_mem ho; exact ⟨h2, a, by omega⟩
theorem Tr.base (T : Tr call cops S K V) {a : Nat} : ∀ b, a ≤ b → b ≤ cops.length → (∀ h, a ≤ h → h < b → K h ≠ .hard) → (S b).base = (S a).base := by
  intro b
  induction b with
  | zero => intro h _ _; obtain rfl : a = 0 := by omega
            rfl
  | succ b ih =>
    intro h hb hh
    by_cases e : a = b + 1
    · rw [e]
    · rw [(T.notHard (i := b) (by omega) (hh b (by omega) (by omega))).1, ih (by omega) (by omega) fun x hx hxb => hh x hx (by omega)]
theorem Tr.hmask (T : Tr call cops S K V) {h : Nat} (hk : K h = .hard) : ∀ j, h < j → j ≤ cops.length → (S j).hmask.testBit h = true := by
  intro j
  induction j with
  | zero => intro h1; omega
  | succ j ih =>
    intro h1 h2
    by_cases e : K j = .hard
    · rw [(T.isHard (by omega) e).2.1]
      show ((S j).hmask ||| 2 ^ j).testBit h = true
      rw [Nat.testBit_or]
      by_cases e' : h = j
      · subst e'; simp
      · rw [ih (by omega) (by omega)]; rfl
    · rw [(T.notHard (by omega) e).2.2.1]
      exact ih (by rcases Nat.lt_succ_iff_lt_or_eq.1 h1 with h | h
                   · exact h
                   · subst h; exact absurd hk e) (by omega)
theorem Tr.soft (T : Tr call cops S K V) {i : Nat} (hk : K i = .soft) : ∀ j, i < j → j ≤ cops.length → (∀ h, i < h → h < j → K h ≠ .hard) → (S j).softs.testBit i = true := by
  intro j
  induction j with
  | zero => intro h1; omega
  | succ j ih =>
    intro h1 h2 h3
    by_cases e : i = j
    · subst e
      rw [(T.isSoft (by omega) hk).1]
      show ((S i).softs ||| 2 ^ i).testBit i = true
      rw [Nat.testBit_or]; simp
    · exact (T.notHard (by omega) (h3 j (by omega) (by omega))).2.2.2.2 i (ih (by omega) (by omega) fun x hx hxj => h3 x hx (by omega))
theorem Tr.hards (T : Tr call cops S K V) {c : Nat} : ∀ j, c ≤ j → j ≤ cops.length → ∃ X, (S j).hards = X ++ (S c).hards ∧ ∀ p ∈ X, c ≤ p.1 ∧ p.1 < j ∧ K p.1 = .hard ∧ p.2 = ancAt cops p.1 := by
  intro j
  induction j with
  | zero => intro h1 _; obtain rfl : c = 0 := by omega
            exact ⟨[], rfl, fun p hp => by cases hp⟩
  | succ j ih =>
    intro h1 h2
    by_cases e : c = j + 1
    · subst e; exact ⟨[], rfl, fun p hp => by cases hp⟩
    · obtain ⟨X, hX, hp⟩ := ih (by omega) (by omega)
      by_cases hk : K j = .hard
      · refine ⟨(j, ancAt cops j) :: X, by rw [(T.isHard (by omega) hk).2.2.1, hX]; rfl, fun p hp' => ?_⟩
        rcases List.mem_cons.1 hp' with rfl | hp'
        · exact ⟨by simp only; omega, by simp, hk, rfl⟩
        · obtain ⟨a, b, c⟩ := hp p hp'; exact ⟨a, by omega, c⟩
      · refine ⟨X, by rw [(T.notHard (by omega) hk).2.2.2.1, hX], fun p hp' => ?_⟩
        obtain ⟨a, b, c⟩ := hp p hp'; exact ⟨a, by omega, c⟩
theorem Tr.hardsOf (T : Tr call cops S K V) {j : Nat} (hj : j ≤ cops.length) {p : Nat × Nat} (h : p ∈ (S j).hards) : p.1 < j ∧ K p.1 = .hard ∧ p.2 = ancAt cops p.1 := by
  obtain ⟨X, hX, hp⟩ := T.hards (c := 0) j (Nat.zero_le _) hj
  rw [T.hards0, List.append_nil] at hX
  rw [hX] at h
  exact (hp p h).2
theorem Tr.bases (T : Tr call cops S K V) {c : Nat} : ∀ j, c ≤ j → j ≤ cops.length → (S j).bases.length = (S j).hards.length ∧ ((S j).bases.reverse ++ [(S j).base])[(S c).hards.length]? = some (S c).base := by
  have len : ∀ j, j ≤ cops.length → (S j).bases.length = (S j).hards.length := by
    intro j
    induction j with
    | zero => intro _; rw [T.bases0, T.hards0]; rfl
    | succ j ih =>
      intro hj
      by_cases hk : K j = .hard
      · have := T.isHard (i := j) (by omega) hk
        rw [this.1, this.2.2.1]; simp [ih (by omega)]
      · have := T.notHard (i := j) (by omega) hk
        rw [this.2.1, this.2.2.2.1]; exact ih (by omega)
  intro j
  induction j with
  | zero => intro h1 _; obtain rfl : c = 0 := by omega
            exact ⟨len 0 (Nat.zero_le _), by rw [T.bases0, T.hards0]; rfl⟩
  | succ j ih =>
    intro h1 h2
    refine ⟨len _ h2, ?_⟩
    by_cases e : c = j + 1
    · subst e
      rw [← len _ h2, List.getElem?_append_right (by simp)]; simp
    · obtain ⟨hl, hb⟩ := ih (by omega) (by omega)
      by_cases hk : K j = .hard
      · rw [(T.isHard (i := j) (by omega) hk).1]
        simp only [List.reverse_cons, List.append_assoc]
        have hlt : (S c).hards.length < ((S j).bases.reverse ++ [(S j).base]).length := (List.getElem?_eq_some_iff.1 hb).1
        rw [← List.append_assoc, List.getElem?_append_left hlt]; exact hb
      · have := T.notHard (i := j) (by omega) hk
        rw [this.2.1, this.1]; exact hb
theorem Tr.loads (T : Tr call cops S K V) {i : Nat} {o : COper} (ho : cops[i]? = some o) (hk : K i = .load) : ∃ x n, asLoad o.op = some (x, n) ∧ loadAt (S i).base (evA (S i).tm x) n = some (V i) ∧
    ∀ j, i < j → j ≤ cops.length → { j := i, anc := o.anc, p := evA (S i).tm x, n := n, v := V i } ∈ (S j).loads := by
  have hi : i < cops.length := (List.getElem?_eq_some_iff.1 ho).1
  have h1 : ∃ x n, asLoad o.op = some (x, n) ∧ loadAt (S i).base (evA (S i).tm x) n = some (V i) ∧ { j := i, anc := o.anc, p := evA (S i).tm x, n := n, v := V i } ∈ (S (i + 1)).loads := by
    have := T.step i o ho
    generalize K i = k at *
    generalize S (i + 1) = s' at *
    generalize V i = v at *
    generalize S i = s at *
    cases this with
    | skip => cases hk
    | run st1 _ _ s1 hw hd =>
      cases hd with
      | load x n _ ha hl => exact ⟨x, n, ha, hl, by simp⟩
      | _ => cases hk
  obtain ⟨x, n, ha, hl, hm⟩ := h1
  refine ⟨x, n, ha, hl, fun j => ?_⟩
  induction j with
  | zero => intro h; omega
  | succ j ih =>
    intro h1 h2
    by_cases e : i = j
    · subst e; exact hm
    · have hmem := ih (by omega) (by omega)
      obtain ⟨o', ho'⟩ := get_lt (cops := cops) (i := j) (by omega)
      have := T.step j o' ho'
      generalize K j = k at *
      generalize V j = v at *
      generalize S (j + 1) = s' at *
      generalize S j = s at *
      cases this with
      | skip => exact hmem
      | run st1 _ _ s1 hw hd =>
        cases hd with
        | load => exact List.mem_cons_of_mem _ hmem
        | _ => exact hmem
theorem Tr.mono (T : Tr call cops S K V) (cm : CallMono call) {a : Nat} : ∀ b, a ≤ b → b ≤ cops.length → DMono (S a) (S b) := by
  intro b
  induction b with
  | zero => intro h _; obtain rfl : a = 0 := by omega
            exact DMono.refl _
  | succ b ih =>
    intro h1 h2
    by_cases e : a = b + 1
    · subst e; exact DMono.refl _
    · refine (ih (by omega) (by omega)).trans ?_
      obtain ⟨o, ho⟩ := get_lt (cops := cops) (i := b) (by omega)
      have := T.step b o ho
      generalize K b = k at *
      generalize V b = v at *
      generalize S (b + 1) = s' at *
      generalize S b = s at *
      have two : ∀ {l1 l2 l3 : List (SB × Bool)}, l3 = l1 ++ l2 → (∃ l, l2 = l ++ s.tr) → ∃ l, l3 = l ++ s.tr := by
        intro l1 l2 l3 e ⟨l, e'⟩; exact ⟨l1 ++ l, by rw [e, e', List.append_assoc]⟩
      cases this with
      | skip st1 hw =>
        obtain ⟨b, st2, h3, hm⟩ := wantK_mono hw
        simp only [Except.ok.injEq, Prod.mk.injEq] at h3
        obtain ⟨rfl, rfl⟩ := h3
        exact ⟨Nat.le_refl _, Nat.le_refl _, hm.tr⟩
      | run st1 _ _ s1 hw hd =>
        obtain ⟨b, st2, h3, hm⟩ := wantK_mono hw
        simp only [Except.ok.injEq, Prod.mk.injEq] at h3
        obtain ⟨rfl, rfl⟩ := h3
        cases hd with
        | pure v st h0 he => have m := evOp_mono cm he; obtain ⟨l, e⟩ := m.tr; exact ⟨Nat.le_refl _, Nat.le_refl _, two e hm.tr⟩
        | alloc v st he hl => have m := evOp_mono cm he; obtain ⟨l, e⟩ := m.tr; exact ⟨m.next, Nat.le_refl _, two e hm.tr⟩
        | load x n v ha hl => exact ⟨Nat.le_refl _, Nat.le_refl _, hm.tr⟩
        | soft v st he => have m := evOp_mono cm he; obtain ⟨l, e⟩ := m.tr; exact ⟨m.next, Nat.le_refl _, two e hm.tr⟩
        | hard v st he => have m := evOp_mono cm he; obtain ⟨l, e⟩ := m.tr; exact ⟨m.next, (lowered_le _ _).1, two e hm.tr⟩
theorem Tr.tm (T : Tr call cops S K V) (hu : ∀ i j d, dstAt cops i = some d → dstAt cops j = some d → i = j) : ∀ j, j ≤ cops.length → ∀ t,
    (∀ k, k < j → dstAt cops k = some t → evA (S j).tm (.t t) = V k) ∧ ((∀ k, k < j → dstAt cops k ≠ some t) → evA (S j).tm (.t t) = evA (S 0).tm (.t t)) := by
  intro j
  induction j with
  | zero => exact fun _ t => ⟨fun k h => by omega, fun _ => rfl⟩
  | succ j ih =>
    intro hj t
    obtain ⟨h1, h2⟩ := ih (by omega) t
    obtain ⟨o, ho⟩ := get_lt (cops := cops) (i := j) (by omega)
    have hd : dstAt cops j = o.dst := dstAt_eq ho
    have htm : (S (j + 1)).tm = putD (S j).tm o.dst (V j) := by
      have := T.step j o ho
      generalize K j = k at *
      generalize S (j + 1) = s' at *
      generalize V j = v at *
      generalize S j = s at *
      cases this with
      | skip => rfl
      | run st1 _ _ s1 hw hd => cases hd <;> rfl
    rw [htm]
    by_cases e : o.dst = some t
    · rw [e]; simp only [putD]
      rw [evA_set_eq]
      refine ⟨fun k hk hkt => ?_, fun hn => absurd (hd.trans e) (hn j (by omega))⟩
      rw [hu k j t hkt (hd.trans e)]
    · have e2 : evA (putD (S j).tm o.dst (V j)) (.t t) = evA (S j).tm (.t t) := by
        cases hdd : o.dst with
        | none => rfl
        | some d => simp only [putD]; exact evA_set_ne fun c => e (by rw [hdd]; injection c with c; rw [c])
      rw [e2]
      refine ⟨fun k hk hkt => h1 k ?_ hkt, fun hn => h2 fun k hk => hn k (by omega)⟩
      rcases Nat.lt_succ_iff_lt_or_eq.1 hk with h | h
      · exact h
      · subst h; rw [hd] at hkt; exact absurd hkt e
end
end Go.Ab

namespace Go.Ab
def Live (cops : List COper) (S : Nat → DR) (K : Nat → Kd) (L : Nat → Prop) (c id : Nat) (o : AObj) : Prop :=
  (S c).base.get id = some o ∨ ∃ j, L j ∧ NewsAt S j id o ∧ ∀ h, j < h → h < c → K h = .hard → (ancAt cops h).testBit j = false
structure DI (P : Program) (ρ : Nat → Int) (E : T Unit) (N : Nat) (cops : List COper) (S : Nat → DR) (K : Nat → Kd) (V : Nat → AV) (R0 : Inj) (a0 : Act) (w0 : World) (L : Nat → Prop) (c : Nat) (R : Inj) (a : Act) (w : World) : Prop where
  lt : ∀ j, L j → j < cops.length
  closed : ∀ j, L j → ∀ k, (ancAt cops j).testBit k = true → L k
  cutle : c ≤ cops.length
  cut : ∀ h, h < cops.length → K h = .hard → (L h ↔ h < c)
  tr : ∃ tmx, TR ρ R E N tmx a.tmps ∧ ∀ t, (∀ k, L k → dstAt cops k = some t → evA tmx (.t t) = V k) ∧ ((∀ k, L k → dstAt cops k ≠ some t) → evA tmx (.t t) = evA (S 0).tm (.t t))
  defers : a.defers = a0.defers
  glob : Glob R
  ext : ∀ id, ¬ ((S 0).next ≤ id ∧ id < (S cops.length).next) → R id = R0 id
  fresh : ∀ j, j < cops.length → ¬ L j → ∀ id, (S j).next ≤ id → id < (S (j + 1)).next → R id = none
  live : ∀ id o, Live cops S K L c id o → ∃ l x, R id = some l ∧ w.heap[l.b]? = some x ∧ OR P ρ R o l x
  inj : ∀ i j o o' l l', Live cops S K L c i o → Live cops S K L c j o' → R i = some l → R j = some l' → l.b = l'.b → i = j
  bi : ∀ id o, (S c).base.get id = some o → (S 0).base.get id ≠ none ∨ ∃ j, j < c ∧ (S j).next ≤ id ∧ id < (S (j + 1)).next ∧ (K j = .hard ∨ ∃ h, j < h ∧ h < c ∧ K h = .hard ∧ (ancAt cops h).testBit j = true)
  size : w0.heap.size ≤ w.heap.size
  keep : ∀ b, ¬ Chg R0 (S 0).base (S cops.length).low w0 b → w.heap[b]? = w0.heap[b]?
  news : ∀ id o l, Live cops S K L c id o → R id = some l → (∃ o0, (S 0).base.get id = some o0 ∧ R0 id = some l) ∨ Chg R0 (S 0).base (S cops.length).low w0 l.b
  tape : w.tape = w0.tape
  os : w.os = w0.os
  out : w.output = w0.output
section
variable {P : Program} {ρ : Nat → Int} {E : T Unit} {N : Nat} {call : CallV} {cops : List COper} {S : Nat → DR} {K : Nat → Kd} {V : Nat → AV} {R0 : Inj} {a0 : Act} {w0 : World} {L : Nat → Prop} {c : Nat} {R : Inj} {a : Act} {w : World}
def with1 (L : Nat → Prop) (i : Nat) : Nat → Prop := fun j => L j ∨ j = i
theorem put_tr {R' : Inj} (hu : ∀ i j d, dstAt cops i = some d → dstAt cops j = some d → i = j) {i : Nat} (hnL : ¬ L i) (hd : ∀ d, dstAt cops i = some d → d < N)
    (D : ∃ tmx, TR ρ R E N tmx a.tmps ∧ ∀ t, (∀ k, L k → dstAt cops k = some t → evA tmx (.t t) = V k) ∧ ((∀ k, L k → dstAt cops k ≠ some t) → evA tmx (.t t) = evA (S 0).tm (.t t)))
    (e : Ext R R') {cv : Value} (hv : VR ρ R' (V i) cv) :
    ∃ tmx, TR ρ R' E N tmx (a.put (dstAt cops i) cv).tmps ∧ ∀ t, (∀ k, with1 L i k → dstAt cops k = some t → evA tmx (.t t) = V k) ∧ ((∀ k, with1 L i k → dstAt cops k ≠ some t) → evA tmx (.t t) = evA (S 0).tm (.t t)) := by
  obtain ⟨tmx, t, ht⟩ := D
  cases hdi : dstAt cops i with
  | none =>
    refine ⟨tmx, t.mono e, fun x => ⟨fun k hk hkx => ?_, fun hn => (ht x).2 fun k hk => hn k (.inl hk)⟩⟩
    rcases hk with hk | rfl
    · exact (ht x).1 k hk hkx
    · rw [hdi] at hkx; cases hkx
  | some d =>
    refine ⟨tmx.set d (V i), (t.mono e).set (hd d hdi) hv, fun x => ?_⟩
    by_cases ex : x = d
    · subst ex
      rw [evA_set_eq]
      exact ⟨fun k hk hkx => by rw [hu k i x hkx hdi], fun hn => absurd hdi (hn i (.inr rfl))⟩
    · rw [evA_set_ne (fun c => ex (by injection c))]
      refine ⟨fun k hk hkx => ?_, fun hn => (ht x).2 fun k hk => hn k (.inl hk)⟩
      rcases hk with hk | rfl
      · exact (ht x).1 k hk hkx
      · rw [hdi] at hkx; injection hkx with hkx; exact absurd hkx.symm ex
theorem put_defers (a : Act) (d : Option Nat) (v : Value) : (a.put d v).defers = a.defers := by cases d <;> rfl
theorem range_disjoint (hm : ∀ a b, a ≤ b → b ≤ cops.length → (S a).next ≤ (S b).next) {i j : Nat} (hi : i < cops.length) (hj : j < cops.length) {id : Nat} (h1 : (S i).next ≤ id) (h2 : id < (S (i + 1)).next) (h3 : (S j).next ≤ id) (h4 : id < (S (j + 1)).next) : i = j := by
  rcases Nat.lt_trichotomy i j with h | h | h
  · have := hm (i + 1) j (by omega) (by omega); omega
  · exact h
  · have := hm (j + 1) i (by omega) (by omega); omega
theorem DI.soft (Tt : Tr call cops S K V) (hm : ∀ a b, a ≤ b → b ≤ cops.length → (S a).next ≤ (S b).next) (hu : ∀ i j d, dstAt cops i = some d → dstAt cops j = some d → i = j)
    (D : DI P ρ E N cops S K V R0 a0 w0 L c R a w) {i : Nat} (hi : i < cops.length) (hnL : ¬ L i) (hanc : ∀ k, (ancAt cops i).testBit k = true → L k) (hk : K i ≠ .hard) (hd : ∀ d, dstAt cops i = some d → d < N)
    {hI h' : T AObj} {w' : World} {R' : Inj} {low : Nat} (s : Step P ρ R hI w R' h' w' low (S i).next (S (i + 1)).next) (hlive : ∀ id o, hI.get id = some o → Live cops S K L c id o) (hlow : ∀ id o, hI.get id = some o → id < low)
    (hn : ∀ id o, NewsAt S i id o → h'.get id = some o) {cv : Value} (hv : VR ρ R' (V i) cv) :
    DI P ρ E N cops S K V R0 a0 w0 (with1 L i) c R' (a.put (dstAt cops i) cv) w' := by
  have fr : Fresh R (S i).next (S (i + 1)).next := fun id h1 h2 => D.fresh i hi hnL id h1 h2
  have e : Ext R R' := s.mono fr
  have hchg : ∀ b, Chg R hI low w b → w.heap.size ≤ b := by
    rintro b (h | ⟨id, o, l, h1, h2, _⟩)
    · exact h
    · have := hlow id o h2; omega
  have hkeep : ∀ b, b < w.heap.size → w'.heap[b]? = w.heap[b]? := fun b hb => s.keep b fun hc => by have := hchg b hc; omega
  have old : ∀ id o, Live cops S K (with1 L i) c id o → Live cops S K L c id o ∨ NewsAt S i id o := by
    rintro id o (h | ⟨j, hj, hnn, hh⟩)
    · exact .inl (.inl h)
    · rcases hj with hj | rfl
      · exact .inl (.inr ⟨j, hj, hnn, hh⟩)
      · exact .inr hnn
  have oldR : ∀ id o, Live cops S K L c id o → ∃ l x, R id = some l ∧ R' id = some l ∧ l.b < w.heap.size ∧ w.heap[l.b]? = some x ∧ OR P ρ R o l x := by
    intro id o h
    obtain ⟨l, x, h1, h2, h3⟩ := D.live id o h
    exact ⟨l, x, h1, e _ _ h1, (Array.getElem?_eq_some_iff.1 h2).1, h2, h3⟩
  have hnone : ∀ id o, hI.get id = some o → R id ≠ none := by
    intro id o h
    obtain ⟨l, x, h1, _⟩ := D.live id o (hlive id o h)
    rw [h1]; simp
  have newb : ∀ id o l, NewsAt S i id o → R' id = some l → w.heap.size ≤ l.b := by
    intro id o l h hr
    rcases s.news id o l (hn id o h) hr with ⟨o0, h0, r0⟩ | hc
    · have := Tt.news hi h
      rw [fr id this.2.1 this.2.2] at r0; cases r0
    · exact hchg _ hc
  have key : ∀ b, Chg R hI low w b → Chg R0 (S 0).base (S cops.length).low w0 b := fun b hb => .inl (Nat.le_trans D.size (hchg b hb))
  refine ⟨?_, ?_, D.cutle, ?_, put_tr hu hnL hd D.tr e hv, by rw [put_defers]; exact D.defers, D.glob.mono e, fun id hid => ?_, fun j hj hnj id h1 h2 => ?_, fun id o h => ?_, fun i1 i2 o1 o2 l1 l2 h1 h2 r1 r2 eb => ?_, D.bi,
    Nat.le_trans D.size s.size, fun b hb => ?_, fun id o l h hr => ?_, s.tape.trans D.tape, s.os.trans D.os, s.out.trans D.out⟩
  · rintro j (hj | rfl)
    · exact D.lt j hj
    · exact hi
  · rintro j (hj | rfl) k hbit
    · exact .inl (D.closed j hj k hbit)
    · exact .inl (hanc k hbit)
  · intro h hh hkh
    have hne : h ≠ i := fun c => hk (c ▸ hkh)
    constructor
    · rintro (h1 | h1)
      · exact (D.cut h hh hkh).1 h1
      · exact absurd h1 hne
    · exact fun h1 => .inl ((D.cut h hh hkh).2 h1)
  · rw [s.ext id fun hc => hid ⟨Nat.le_trans (hm 0 i (Nat.zero_le _) (by omega)) hc.1, Nat.lt_of_lt_of_le hc.2 (hm (i + 1) _ (by omega) (Nat.le_refl _))⟩]
    exact D.ext id hid
  · have hji : j ≠ i := fun c => hnj (.inr c)
    rw [s.ext id fun hc => hji (range_disjoint hm hj hi h1 h2 hc.1 hc.2)]
    exact D.fresh j hj (fun c => hnj (.inl c)) id h1 h2
  · rcases old id o h with h | h
    · obtain ⟨l, x, h1, h2, h3, h4, h5⟩ := oldR id o h
      exact ⟨l, x, h2, by rw [hkeep _ h3]; exact h4, h5.mono e⟩
    · exact s.inv.live id o (hn id o h)
  · rcases old i1 o1 h1 with h1 | h1 <;> rcases old i2 o2 h2 with h2 | h2
    · obtain ⟨m1, x1, a1, b1, _⟩ := oldR i1 o1 h1
      obtain ⟨m2, x2, a2, b2, _⟩ := oldR i2 o2 h2
      rw [b1] at r1; injection r1 with r1; rw [b2] at r2; injection r2 with r2
      exact D.inj i1 i2 o1 o2 m1 m2 h1 h2 a1 a2 (by rw [r1, r2]; exact eb)
    · obtain ⟨m1, x1, a1, b1, c1, _⟩ := oldR i1 o1 h1
      rw [b1] at r1; injection r1 with r1
      have := newb i2 o2 l2 h2 r2
      rw [r1] at c1; omega
    · obtain ⟨m2, x2, a2, b2, c2, _⟩ := oldR i2 o2 h2
      rw [b2] at r2; injection r2 with r2
      have := newb i1 o1 l1 h1 r1
      rw [r2] at c2; omega
    · exact s.inv.inj i1 i2 o1 o2 l1 l2 (hn i1 o1 h1) (hn i2 o2 h2) r1 r2 eb
  · rw [s.keep b fun hc => hb (key b hc)]; exact D.keep b hb
  · rcases old id o h with h | h
    · obtain ⟨m1, x1, a1, b1, _⟩ := oldR id o h
      rw [b1] at hr; injection hr with hr; subst hr
      exact D.news id o m1 h a1
    · exact .inr (.inl (Nat.le_trans D.size (newb id o l h hr)))
theorem DI.hard (Tt : Tr call cops S K V) (hm : ∀ a b, a ≤ b → b ≤ cops.length → (S a).next ≤ (S b).next) (hu : ∀ i j d, dstAt cops i = some d → dstAt cops j = some d → i = j) (wf : ∀ id, (S 0).next ≤ id → (S 0).base.get id = none)
    (D : DI P ρ E N cops S K V R0 a0 w0 L c R a w) {i : Nat} (hi : i < cops.length) (hnL : ¬ L i) (hanc : ∀ k, (ancAt cops i).testBit k = true → L k) (hancl : ∀ k, (ancAt cops i).testBit k = true → k < i) (hk : K i = .hard) (hd : ∀ d, dstAt cops i = some d → d < N)
    (hcut : ∀ h, h < cops.length → K h = .hard → (L h ↔ h < i))
    {hI : T AObj} {w' : World} {R' : Inj} {low : Nat} (s : Step P ρ R hI w R' (S (i + 1)).base w' low (S i).next (S (i + 1)).next)
    (hlive : ∀ id o, hI.get id = some o → (S c).base.get id = some o ∨ ∃ j, L j ∧ (ancAt cops i).testBit j = true ∧ NewsAt S j id o ∧ ∀ h, j < h → h < c → K h = .hard → (ancAt cops h).testBit j = false)
    (hlow : (S cops.length).low ≤ low) {cv : Value} (hv : VR ρ R' (V i) cv) :
    DI P ρ E N cops S K V R0 a0 w0 (with1 L i) (i + 1) R' (a.put (dstAt cops i) cv) w' := by
  have fr : Fresh R (S i).next (S (i + 1)).next := fun id h1 h2 => D.fresh i hi hnL id h1 h2
  have e : Ext R R' := s.mono fr
  have hcc : ∀ h, h < cops.length → K h = .hard → (h < c ↔ h < i) := fun h hh hkh => (D.cut h hh hkh).symm.trans (hcut h hh hkh)
  have hlive' : ∀ id o, hI.get id = some o → Live cops S K L c id o := by
    intro id o h
    rcases hlive id o h with h | ⟨j, h1, _, h3, h4⟩
    · exact .inl h
    · exact .inr ⟨j, h1, h3, h4⟩
  have key : ∀ b, Chg R hI low w b → Chg R0 (S 0).base (S cops.length).low w0 b := by
    rintro b (h | ⟨id, o, l, h1, h2, h3, rfl⟩)
    · exact .inl (Nat.le_trans D.size h)
    · rcases D.news id o l (hlive' id o h2) h3 with ⟨o0, h4, h5⟩ | h4
      · exact .inr ⟨id, o0, l, Nat.le_trans hlow h1, h4, h5, rfl⟩
      · exact h4
  have rest : ∀ j id o, L j → NewsAt S j id o → (∀ h, j < h → h < i + 1 → K h = .hard → (ancAt cops h).testBit j = false) → (ancAt cops i).testBit j = false ∧ Live cops S K L c id o ∧ ∀ o', hI.get id ≠ some o' := by
    intro j id o hj hn hh
    have hjm := D.lt j hj
    have hjn := Tt.news hjm hn
    have hnb : (ancAt cops i).testBit j = false := by
      cases hb : (ancAt cops i).testBit j with
      | false => rfl
      | true => rw [hh i (hancl j hb) (by omega) hk] at hb; cases hb
    have hc : ∀ h, j < h → h < c → K h = .hard → (ancAt cops h).testBit j = false := fun h h1 h2 h3 => hh h h1 (by
      have := (hcc h (Nat.lt_of_lt_of_le h2 D.cutle) h3).1 h2; omega) h3
    refine ⟨hnb, .inr ⟨j, hj, hn, hc⟩, fun o' h => ?_⟩
    rcases hlive id o' h with h | ⟨j', h1, h2, h3, _⟩
    · rcases D.bi id o' h with h0 | ⟨j', h1, h2, h3, h4⟩
      · exact h0 (wf id (Nat.le_trans (hm 0 j (Nat.zero_le _) (by omega)) hjn.2.1))
      · have : j' = j := range_disjoint hm (Nat.lt_of_lt_of_le h1 D.cutle) hjm h2 h3 hjn.2.1 hjn.2.2
        subst this
        rcases h4 with h4 | ⟨h, h5, h6, h7, h8⟩
        · rcases hjn.1 with h9 | h9 <;> rw [h4] at h9 <;> cases h9
        · rw [hc h h5 h6 h7] at h8; cases h8
    · have h4 := Tt.news (D.lt j' h1) h3
      have : j' = j := range_disjoint hm (D.lt j' h1) hjm h4.2.1 h4.2.2 hjn.2.1 hjn.2.2
      subst this
      rw [hnb] at h2; cases h2
  have now : ∀ id o, Live cops S K (with1 L i) (i + 1) id o → (S (i + 1)).base.get id = some o ∨ (Live cops S K L c id o ∧ ∀ o', hI.get id ≠ some o') := by
    rintro id o (h | ⟨j, hj, hn, hh⟩)
    · exact .inl h
    · rcases hj with hj | rfl
      · have := rest j id o hj hn hh; exact .inr this.2
      · exfalso
        have := (Tt.news hi hn).1
        rw [hk] at this; rcases this with h | h <;> cases h
  have oldR : ∀ id o, Live cops S K L c id o → ∃ l x, R id = some l ∧ R' id = some l ∧ l.b < w.heap.size ∧ w.heap[l.b]? = some x ∧ OR P ρ R o l x := by
    intro id o h
    obtain ⟨l, x, h1, h2, h3⟩ := D.live id o h
    exact ⟨l, x, h1, e _ _ h1, (Array.getElem?_eq_some_iff.1 h2).1, h2, h3⟩
  have apart : ∀ id o l, Live cops S K L c id o → (∀ o', hI.get id ≠ some o') → R id = some l → ¬ Chg R hI low w l.b := by
    rintro id o l h hno hr (h1 | ⟨id', o', l', h1, h2, h3, h4⟩)
    · obtain ⟨m, x, a1, _, c1, _⟩ := oldR id o h
      rw [a1] at hr; injection hr with hr; subst hr; omega
    · have := D.inj id' id o' o l' l (hlive' _ _ h2) h h3 hr h4
      subst this
      exact hno _ h2
  refine ⟨?_, ?_, by omega, ?_, put_tr hu hnL hd D.tr e hv, by rw [put_defers]; exact D.defers, D.glob.mono e, fun id hid => ?_, fun j hj hnj id h1 h2 => ?_, fun id o h => ?_, fun i1 i2 o1 o2 l1 l2 h1 h2 r1 r2 eb => ?_, fun id o h => ?_,
    Nat.le_trans D.size s.size, fun b hb => ?_, fun id o l h hr => ?_, s.tape.trans D.tape, s.os.trans D.os, s.out.trans D.out⟩
  · rintro j (hj | rfl)
    · exact D.lt j hj
    · exact hi
  · rintro j (hj | rfl) k hbit
    · exact .inl (D.closed j hj k hbit)
    · exact .inl (hanc k hbit)
  · intro h hh hkh
    have := hcut h hh hkh
    constructor
    · rintro (h1 | h1)
      · have := this.1 h1; omega
      · omega
    · intro h1
      by_cases hhi : h = i
      · exact .inr hhi
      · exact .inl (this.2 (by omega))
  · rw [s.ext id fun hc => hid ⟨Nat.le_trans (hm 0 i (Nat.zero_le _) (by omega)) hc.1, Nat.lt_of_lt_of_le hc.2 (hm (i + 1) _ (by omega) (Nat.le_refl _))⟩]
    exact D.ext id hid
  · have hji : j ≠ i := fun c => hnj (.inr c)
    rw [s.ext id fun hc => hji (range_disjoint hm hj hi h1 h2 hc.1 hc.2)]
    exact D.fresh j hj (fun c => hnj (.inl c)) id h1 h2
  · rcases now id o h with h | ⟨h, hno⟩
    · exact s.inv.live id o h
    · obtain ⟨l, x, h1, h2, h3, h4, h5⟩ := oldR id o h
      exact ⟨l, x, h2, by rw [s.keep _ (apart id o l h hno h1)]; exact h4, h5.mono e⟩
  ·
    have mixed : ∀ j1 j2 p1 p2 m1 m2, (S (i + 1)).base.get j1 = some p1 → Live cops S K L c j2 p2 → (∀ o', hI.get j2 ≠ some o') → R' j1 = some m1 → R' j2 = some m2 → m1.b = m2.b → False := by
      intro j1 j2 p1 p2 m1 m2 g1 g2 hno q1 q2 eb
      obtain ⟨m, x, a2, b2, c2, _⟩ := oldR j2 p2 g2
      rw [b2] at q2; injection q2 with q2; subst q2
      rcases s.news j1 p1 m1 g1 q1 with ⟨o0, h3, h4⟩ | h3
      · have := D.inj j1 j2 o0 p2 m1 m (hlive' _ _ h3) g2 h4 a2 eb
        subst this
        exact hno _ h3
      · rw [eb] at h3
        exact apart j2 p2 m g2 hno a2 h3
    rcases now i1 o1 h1 with h1 | ⟨h1, n1⟩ <;> rcases now i2 o2 h2 with h2 | ⟨h2, n2⟩
    · exact s.inv.inj i1 i2 o1 o2 l1 l2 h1 h2 r1 r2 eb
    · exact (mixed i1 i2 o1 o2 l1 l2 h1 h2 n2 r1 r2 eb).elim
    · exact (mixed i2 i1 o2 o1 l2 l1 h2 h1 n1 r2 r1 eb.symm).elim
    · obtain ⟨m1, x1, a1, b1, _⟩ := oldR i1 o1 h1
      obtain ⟨m2, x2, a2, b2, _⟩ := oldR i2 o2 h2
      rw [b1] at r1; injection r1 with r1; rw [b2] at r2; injection r2 with r2
      exact D.inj i1 i2 o1 o2 m1 m2 h1 h2 a1 a2 (by rw [r1, r2]; exact eb)
  · by_cases hnew : (S i).next ≤ id ∧ id < (S (i + 1)).next
    · exact .inr ⟨i, by omega, hnew.1, hnew.2, .inl hk⟩
    · cases hg : hI.get id with
      | none => rw [s.dom id hg hnew] at h; cases h
      | some o' =>
        rcases hlive id o' hg with h1 | ⟨j, h1, h2, h3, _⟩
        · rcases D.bi id o' h1 with h0 | ⟨j, h2, h3, h4, h5⟩
          · exact .inl h0
          · have hjm : j < cops.length := Nat.lt_of_lt_of_le h2 D.cutle
            rcases h5 with h5 | ⟨h, h6, h7, h8, h9⟩
            · exact .inr ⟨j, by have := (hcc j hjm h5).1 h2; omega, h3, h4, .inl h5⟩
            · have := (hcc h (Nat.lt_of_lt_of_le h7 D.cutle) h8).1 h7
              exact .inr ⟨j, by omega, h3, h4, .inr ⟨h, h6, by omega, h8, h9⟩⟩
        · have h4 := Tt.news (D.lt j h1) h3
          have := hancl j h2
          exact .inr ⟨j, by omega, h4.2.1, h4.2.2, .inr ⟨i, this, by omega, hk, h2⟩⟩
  · rw [s.keep b fun hc => hb (key b hc)]; exact D.keep b hb
  · rcases now id o h with h | ⟨h, _⟩
    · rcases s.news id o l h hr with ⟨o0, h1, h2⟩ | h1
      · exact D.news id o0 l (hlive' _ _ h1) h2
      · exact .inr (key _ h1)
    · obtain ⟨m1, x1, a1, b1, _⟩ := oldR id o h
      rw [b1] at hr; injection hr with hr; subst hr
      exact D.news id o m1 h a1
end
end Go.Ab

namespace Go.Ab
section
variable {call : CallV} {i : Nat} {o : COper} {s s' : DR} {k : Kd} {v : AV}
theorem DStep.inv (h : DStep call i o s k v s') :
    (k = .quiet ∧ v = undef ∧ ∃ st1, wantK o.guard s.tm (s.st .leaf s.low) (fun b st => .ok (b, st)) = .ok (false, st1) ∧ s' = { s with tm := putD s.tm o.dst undef, sc := st1.sc, tr := st1.tr }) ∨
    ∃ st1 s1, wantK o.guard s.tm (s.st .leaf s.low) (fun b st => .ok (b, st)) = .ok (true, st1) ∧ DOp call i o { s with sc := st1.sc, tr := st1.tr } k v s1 ∧ s' = { s1 with tm := putD s1.tm o.dst v } := by
  cases h with
  | skip st1 h => exact .inl ⟨rfl, rfl, st1, h, rfl⟩
  | run st1 k v s1 h hd => exact .inr ⟨st1, s1, h, hd, rfl⟩
theorem DOp.inv (h : DOp call i o s k v s') :
    (k = .quiet ∧ ∃ st, opClass o.op = 0 ∧ evOp o.op s.tm (s.st .leaf s.low) call = .ok (v, st) ∧ s' = { s with sc := st.sc, tr := st.tr }) ∨
    (k = .alloc ∧ ∃ st, evOp o.op s.tm (s.st .leaf s.next) call = .ok (v, st) ∧ s.next ≤ st.low ∧ s' = { s with pend := newsOf i v st.heap s.next st.next s.pend, next := st.next, sc := st.sc, tr := st.tr }) ∨
    (k = .load ∧ ∃ x n, asLoad o.op = some (x, n) ∧ loadAt s.base (evA s.tm x) n = some v ∧ s' = { s with loads := { j := i, anc := o.anc, p := evA s.tm x, n := n, v := v } :: s.loads }) ∨
    (k = .soft ∧ ∃ st, evOp o.op s.tm (s.st (heapFor s.base o.anc s.pend) s.next) call = .ok (v, st) ∧ within s.hmask o.anc = true ∧ s.next ≤ st.low ∧
      s' = { s with pend := newsOf i v st.heap s.next st.next s.pend, softs := Nat.lor s.softs (Nat.pow 2 i), next := st.next, sc := st.sc, tr := st.tr }) ∨
    (k = .hard ∧ ∃ st, evOp o.op s.tm (s.st (heapFor s.base o.anc s.pend) s.next) call = .ok (v, st) ∧ within s.hmask o.anc = true ∧ within s.softs o.anc = true ∧
      s' = { s with
          base := st.heap, bases := s.base :: s.bases, pend := pendRest o.anc s.pend, softs := 0, hmask := Nat.lor s.hmask (Nat.pow 2 i), hards := (i, o.anc) :: s.hards,
          next := st.next, low := lowered s.low st.low, sc := st.sc, tr := st.tr }) := by
  cases h with
  | pure v st h0 h => exact .inl ⟨rfl, st, h0, h, rfl⟩
  | alloc v st h hl => exact .inr (.inl ⟨rfl, st, h, hl, rfl⟩)
  | load x n v ha h => exact .inr (.inr (.inl ⟨rfl, x, n, ha, h, rfl⟩))
  | soft v st h hw hl => exact .inr (.inr (.inr (.inl ⟨rfl, st, h, hw, hl, rfl⟩)))
  | hard v st h hw hs => exact .inr (.inr (.inr (.inr ⟨rfl, st, h, hw, hs, rfl⟩)))
theorem wantK_congr {β : Type} {g : Option (CA × Bool)} {tm tm' : T AV} {st : St} {K : Bool → St → M β} (h : ∀ x want, g = some (x, want) → evA tm x = evA tm' x) : wantK g tm st K = wantK g tm' st K := by
  cases g with
  | none => rfl
  | some p => obtain ⟨x, want⟩ := p; simp only [wantK, evAK_eq, h x want rfl]
end
theorem ancFold_bit {b : List Nat} {k : Nat} : ∀ {l : List Edge}, (ancFold b l).testBit k = true → ∃ e ∈ l, Region.binds .any e = true ∧ (k = e.on ∨ (b.getD e.on 0).testBit k = true) := by
  intro l
  induction l with
  | nil => intro h; simp [ancFold] at h
  | cons e l ih =>
    intro h
    simp only [ancFold] at h
    split at h
    · rename_i hb
      have h : ((2 ^ e.on ||| b.getD e.on 0) ||| ancFold b l).testBit k = true := h
      rw [Nat.testBit_or, Nat.testBit_or, Nat.testBit_two_pow] at h
      simp only [Bool.or_eq_true, decide_eq_true_eq] at h
      rcases h with (h | h) | h
      · exact ⟨e, by simp, hb, .inl h.symm⟩
      · exact ⟨e, by simp, hb, .inr h⟩
      · obtain ⟨e', a, c, d⟩ := ih h; exact ⟨e', List.mem_cons_of_mem _ a, c, d⟩
    · obtain ⟨e', a, c, d⟩ := ih h; exact ⟨e', List.mem_cons_of_mem _ a, c, d⟩
theorem ancOk_get {b : List Nat} : ∀ {l : List Oper} {m : List Nat} {i : Nat}, ancOk b i l m = true → l.length = m.length ∧ ∀ j o, l[j]? = some o → ∃ a, m[j]? = some a ∧ a = ancFold b o.after.toList ∧ ∀ e ∈ o.after.toList, Region.binds .any e = true → e.on < i + j := by
  intro l
  induction l with
  | nil =>
    intro m i h
    cases m with
    | nil => exact ⟨rfl, fun j o h => by simp at h⟩
    | cons => simp [ancOk] at h
  | cons o l ih =>
    intro m i h
    cases m with
    | nil => simp [ancOk] at h
    | cons a m =>
      simp only [ancOk, Bool.and_eq_true, List.all_eq_true, Bool.or_eq_true, Bool.not_eq_true'] at h
      obtain ⟨⟨h1, h2⟩, h3⟩ := h
      obtain ⟨h4, h5⟩ := ih h3
      refine ⟨by simp [h4], fun j p hp => ?_⟩
      cases j with
      | zero =>
        simp only [List.getElem?_cons_zero, Option.some.injEq] at hp
        subst hp
        exact ⟨a, rfl, beq_true h2, fun e he hb => blt_true ((h1 e he).resolve_left (by rw [hb]; simp))⟩
      | succ j =>
        simp only [List.getElem?_cons_succ] at hp
        obtain ⟨a', x, y, z⟩ := h5 j p hp
        exact ⟨a', by simpa using x, y, fun e he hb => by have := z e he hb; omega⟩
section
variable {P : Program} {E : T Unit} {ops : Array Oper}
theorem cDrawOpers_get : ∀ {l : List Oper} {m : List Nat}, l.length = m.length → (cDrawOpers P E ops l m).length = l.length ∧ ∀ j : Nat, (cDrawOpers P E ops l m)[j]? = match l[j]?, m[j]? with
    | some o, some a => some (cOper P E [] ops a o)
    | _, _ => none := by
  intro l
  induction l with
  | nil => intro m h; cases m with
    | nil => exact ⟨rfl, fun j => by simp [cDrawOpers]⟩
    | cons => simp at h
  | cons o l ih =>
    intro m h
    cases m with
    | nil => simp at h
    | cons a m =>
      obtain ⟨h1, h2⟩ := ih (m := m) (by simpa using h)
      refine ⟨by simp [cDrawOpers, h1], fun j => ?_⟩
      cases j with
      | zero => simp [cDrawOpers]
      | succ j => simpa [cDrawOpers] using h2 j
end
theorem memT_false {x : Nat} : ∀ {l : List Nat}, dstOk1.memT x l = false → x ∉ l := by
  intro l
  induction l with
  | nil => intro _ h; cases h
  | cons y l ih =>
    intro h hm
    simp only [dstOk1.memT, Bool.or_eq_false_iff] at h
    rcases List.mem_cons.1 hm with rfl | hm
    · exact beq_false' h.1 rfl
    · exact ih h.2 hm
theorem dstOk1_get {d i a : Nat} : ∀ {l : List COper} {j : Nat}, dstOk1 d i a j l = true → ∀ k o, l[k]? = some o → i ≠ j + k → o.dst ≠ some d ∧ (d ∈ o.reads → o.anc.testBit i = true ∨ a.testBit (j + k) = true) := by
  intro l
  induction l with
  | nil => intro j h k o ho; simp at ho
  | cons p l ih =>
    intro j h k o ho hne
    simp only [dstOk1, Bool.and_eq_true, Bool.or_eq_true, Bool.not_eq_true'] at h
    obtain ⟨h1, h2⟩ := h
    cases k with
    | zero =>
      simp only [List.getElem?_cons_zero, Option.some.injEq] at ho
      subst ho
      rcases h1 with h1 | ⟨h1, h3⟩
      · exact absurd (beq_true h1) hne
      · refine ⟨fun c => ?_, fun hm => ?_⟩
        · rw [c] at h1; simp at h1
        · rcases h3 with (h3 | h3) | h3
          · exact absurd hm (memT_false h3)
          · exact .inl h3
          · exact .inr h3
    | succ k =>
      simp only [List.getElem?_cons_succ] at ho
      have := ih h2 k o ho (by omega)
      rw [show j + (k + 1) = Nat.succ j + k by omega]; exact this
theorem dstOkAll_get {all : List COper} : ∀ {l : List COper} {i : Nat}, dstOkAll all i l = true → ∀ k o d, l[k]? = some o → o.dst = some d → dstOk1 d (i + k) o.anc 0 all = true := by
  intro l
  induction l with
  | nil => intro i h k o d ho; simp at ho
  | cons p l ih =>
    intro i h k o d ho hd
    simp only [dstOkAll, Bool.and_eq_true] at h
    obtain ⟨h1, h2⟩ := h
    cases k with
    | zero =>
      simp only [List.getElem?_cons_zero, Option.some.injEq] at ho
      subst ho
      rw [hd] at h1; exact h1
    | succ k =>
      simp only [List.getElem?_cons_succ] at ho
      have := ih h2 k o d ho hd
      rw [show i + (k + 1) = Nat.succ i + k by omega]; exact this
structure DO (P : Program) (E : T Unit) (N : Nat) (ops : Array Oper) (cops : List COper) : Prop where
  len : cops.length = ops.size
  get : ∀ i o, ops[i]? = some o → ∃ a, cops[i]? = some (cOper P E [] ops a o) ∧ a = ancAt cops i
  edge : ∀ i o, ops[i]? = some o → (∀ e ∈ o.after, Region.binds .any e = true → e.on < i) ∧ ∀ k, (ancAt cops i).testBit k = true → ∃ e ∈ o.after, Region.binds .any e = true ∧ (k = e.on ∨ (ancAt cops e.on).testBit k = true)
  uniq : ∀ i j d, dstAt cops i = some d → dstAt cops j = some d → i = j
  order : ∀ i j d o, dstAt cops i = some d → cops[j]? = some o → d ∈ o.reads → i ≠ j → (ancAt cops j).testBit i = true ∨ (ancAt cops i).testBit j = true
  dst : ∀ i d, dstAt cops i = some d → d < N ∧ E.get d = none
theorem cOper_dst {P : Program} {E : T Unit} {ops : Array Oper} {a : Nat} {o : Oper} {d : Nat} (h : (cOper P E [] ops a o).dst = some d) : o.dst = some d := by
  unfold cOper at h
  split at h
  · exact h
  · exact h
  · cases h
theorem cOper_anc (P : Program) (E : T Unit) (ops : Array Oper) (a : Nat) (o : Oper) : (cOper P E [] ops a o).anc = a := by
  unfold cOper
  split <;> rfl
theorem drawOk_DO {P : Program} {E : T Unit} {N : Nat} {ops : Array Oper} {b : List Nat} (h : (drawOk ops b (cDrawOpers P E ops ops.toList b) && dstsOk E N ops) = true) : DO P E N ops (cDrawOpers P E ops ops.toList b) := by
  simp only [Bool.and_eq_true, drawOk] at h
  obtain ⟨⟨h1, h2⟩, h3⟩ := h
  obtain ⟨hl, hg⟩ := ancOk_get h1
  obtain ⟨hl2, hg2⟩ := cDrawOpers_get (P := P) (E := E) (ops := ops) hl
  generalize hc : cDrawOpers P E ops ops.toList b = cops at *
  have get : ∀ i o, ops[i]? = some o → b[i]? = some (ancAt cops i) ∧ cops[i]? = some (cOper P E [] ops (ancAt cops i) o) ∧ ancAt cops i = ancFold b o.after.toList ∧ ∀ e ∈ o.after.toList, Region.binds .any e = true → e.on < i := by
    intro i o ho
    have ho' : ops.toList[i]? = some o := by simpa using ho
    obtain ⟨a, x, y, z⟩ := hg i o ho'
    have := hg2 i
    rw [ho', x] at this
    simp only at this
    have ea : ancAt cops i = a := by rw [ancAt_eq this, cOper_anc]
    rw [ea]
    exact ⟨x, this, y, fun e he hb => by have := z e he hb; omega⟩
  have back : ∀ i c, cops[i]? = some c → ∃ o, ops[i]? = some o ∧ c = cOper P E [] ops (ancAt cops i) o := by
    intro i c hci
    have hlt : i < ops.size := by have := (List.getElem?_eq_some_iff.1 hci).1; rw [hl2] at this; simpa using this
    have ho : ops[i]? = some ops[i] := Array.getElem?_eq_getElem hlt
    have := (get i _ ho).2.1
    rw [hci] at this; injection this with this
    exact ⟨_, ho, this⟩
  have bD : ∀ i, i < ops.size → b.getD i 0 = ancAt cops i := by
    intro i hi
    have := (get i _ (Array.getElem?_eq_getElem hi)).1
    rw [List.getD_eq_getElem?_getD, this]; rfl
  refine ⟨by rw [hl2]; simp, fun i o ho => ⟨_, (get i o ho).2.1, rfl⟩, fun i o ho => ⟨fun e he hb => (get i o ho).2.2.2 e (by simpa using he) hb, fun k hk => ?_⟩, fun i j d hi hj => ?_, fun i j d o hi hj hm hne => ?_, fun i d hi => ?_⟩
  · obtain ⟨h4, h5, h6, h7⟩ := get i o ho
    rw [h6] at hk
    obtain ⟨e, he, hb, hk⟩ := ancFold_bit hk
    refine ⟨e, by simpa using he, hb, ?_⟩
    rcases hk with hk | hk
    · exact .inl hk
    · have hlt : i < ops.size := (Array.getElem?_eq_some_iff.1 ho).1
      rw [bD e.on (by have := h7 e he hb; omega)] at hk
      exact .inr hk
  · by_cases e : i = j
    · exact e
    · exfalso
      unfold dstAt at hi hj
      cases hci : cops[i]? with
      | none => rw [hci] at hi; cases hi
      | some ci =>
        cases hcj : cops[j]? with
        | none => rw [hcj] at hj; cases hj
        | some cj =>
          rw [hci] at hi; rw [hcj] at hj
          have := dstOkAll_get h2 i ci d hci hi
          exact (dstOk1_get this j cj hcj (by omega)).1 hj
  · unfold dstAt at hi
    cases hci : cops[i]? with
    | none => rw [hci] at hi; cases hi
    | some ci =>
      rw [hci] at hi
      have := dstOkAll_get h2 i ci d hci hi
      have := (dstOk1_get this j o hj (by omega)).2 hm
      rw [ancAt_eq hj, ancAt_eq hci]
      rcases this with h | h
      · left; simpa using h
      · right; simpa using h
  · unfold dstAt at hi
    cases hci : cops[i]? with
    | none => rw [hci] at hi; cases hi
    | some ci =>
      rw [hci] at hi
      obtain ⟨o, ho, rfl⟩ := back i ci hci
      have hd := cOper_dst hi
      have hmem : o ∈ ops.toList := by have := Array.mem_of_getElem? ho; simpa using this
      have := List.all_eq_true.1 h3 o hmem
      rw [hd] at this
      simp only [Bool.and_eq_true] at this
      exact ⟨blt_true this.1, by simpa using this.2⟩
end Go.Ab

namespace Go.Ab
section
variable {P : Program} {ρ : Nat → Int} {E : T Unit} {N : Nat} {call : CallV} {ops : Array Oper} {cops : List COper} {S : Nat → DR} {K : Nat → Kd} {V : Nat → AV} {R0 : Inj} {a0 : Act} {w0 : World} {L : Nat → Prop} {c : Nat} {R : Inj} {a : Act} {w : World}
theorem DO.ancLt (O : DO P E N ops cops) : ∀ i, i < ops.size → ∀ k, (ancAt cops i).testBit k = true → k < i := by
  intro i
  induction i using Nat.strongRecOn with
  | _ i ih =>
    intro hi k hk
    obtain ⟨h1, h2⟩ := O.edge i _ (Array.getElem?_eq_getElem hi)
    obtain ⟨e, he, hb, h⟩ := h2 k hk
    have hlt := h1 e he hb
    rcases h with h | h
    · omega
    · have := ih e.on hlt (by omega) k h; omega
theorem DI.agree (O : DO P E N ops cops) (Tt : Tr call cops S K V) (D : DI P ρ E N cops S K V R0 a0 w0 L c R a w) {i : Nat} (hi : i < cops.length) (hnL : ¬ L i) (hanc : ∀ k, (ancAt cops i).testBit k = true → L k) {o : COper} (ho : cops[i]? = some o)
    {tmx : T AV} (ht : ∀ t, (∀ k, L k → dstAt cops k = some t → evA tmx (.t t) = V k) ∧ ((∀ k, L k → dstAt cops k ≠ some t) → evA tmx (.t t) = evA (S 0).tm (.t t))) {t : Nat} (hr : t ∈ o.reads) : evA (S i).tm (.t t) = evA tmx (.t t) := by
  have htm := Tt.tm O.uniq i (by omega) t
  by_cases hex : ∃ k, dstAt cops k = some t
  · obtain ⟨k, hk⟩ := hex
    by_cases hki : k = i
    · subst hki
      rw [htm.2 fun k' h' hk' => by have := O.uniq k' k t hk' hk; omega, (ht t).2 fun k' h' hk' => by have := O.uniq k' k t hk' hk; subst this; exact hnL h']
    · rcases O.order k i t o hk ho hr hki with hb | hb
      · have hlt := O.ancLt i (by rw [← O.len]; exact hi) k hb
        rw [htm.1 k hlt hk, (ht t).1 k (hanc k hb) hk]
      · have hkm : k < cops.length := by
          unfold dstAt at hk
          cases hck : cops[k]? with
          | none => rw [hck] at hk; cases hk
          | some ck => exact (List.getElem?_eq_some_iff.1 hck).1
        have hlt := O.ancLt k (by rw [← O.len]; exact hkm) i hb
        rw [htm.2 fun k' h' hk' => by have := O.uniq k' k t hk' hk; omega, (ht t).2 fun k' h' hk' => by have := O.uniq k' k t hk' hk; subst this; exact hnL (D.closed _ h' i hb)]
  · rw [htm.2 fun k' h' hk' => hex ⟨k', hk'⟩, (ht t).2 fun k' h' hk' => hex ⟨k', hk'⟩]
theorem tmpsOf_mem {t : Nat} : ∀ {l : List CA}, CA.t t ∈ l → t ∈ tmpsOf l := by
  intro l
  induction l with
  | nil => intro h; cases h
  | cons x l ih =>
    intro h
    cases x with
    | t u => rcases List.mem_cons.1 h with h | h
             · injection h with h; subst h; simp [tmpsOf]
             · simp only [tmpsOf]; exact List.mem_cons_of_mem _ (ih h)
    | v u => rcases List.mem_cons.1 h with h | h
             · cases h
             · simp only [tmpsOf]; exact ih h
theorem reads_arg {o : COper} {t : Nat} (h : CA.t t ∈ o.op.args) : t ∈ o.reads := by
  unfold COper.reads
  split
  · exact tmpsOf_mem (List.mem_cons_of_mem _ h)
  · exact tmpsOf_mem h
theorem reads_guard {o : COper} {t : Nat} {want : Bool} (h : o.guard = some (.t t, want)) : t ∈ o.reads := by
  unfold COper.reads
  rw [h]; simp [tmpsOf]
theorem DI.base (Tt : Tr call cops S K V) (D : DI P ρ E N cops S K V R0 a0 w0 L c R a w) {i : Nat} (hi : i ≤ cops.length) (h : ∀ h, h < cops.length → K h = .hard → (L h ↔ h < i)) : (S i).base = (S c).base := by
  have hc := D.cutle
  rcases Nat.le_total c i with hci | hci
  · exact Tt.base i hci hi fun x h1 h2 hk => by have := (D.cut x (by omega) hk).symm.trans (h x (by omega) hk); omega
  · exact (Tt.base c hci hc fun x h1 h2 hk => by have := (D.cut x (by omega) hk).symm.trans (h x (by omega) hk); omega).symm
theorem DI.cutHard (Tt : Tr call cops S K V) (D : DI P ρ E N cops S K V R0 a0 w0 L c R a w) {i : Nat} (hi : i < cops.length) (hnL : ¬ L i) (hanc : ∀ k, (ancAt cops i).testBit k = true → L k) (hk : K i = .hard) :
    ∀ h, h < cops.length → K h = .hard → (L h ↔ h < i) := by
  intro h hh hkh
  constructor
  · intro hL
    rcases Nat.lt_trichotomy h i with h1 | h1 | h1
    · exact h1
    · subst h1; exact absurd hL hnL
    · exact absurd (D.closed h hL i (within_bit (Tt.isHard hh hkh).2.2.2.2.1 (Tt.hmask hk h h1 (by omega)))) hnL
  · intro h1
    exact hanc h (within_bit (Tt.isHard hi hk).2.2.2.2.1 (Tt.hmask hkh i h1 (by omega)))
theorem DI.cutSoft (Tt : Tr call cops S K V) (D : DI P ρ E N cops S K V R0 a0 w0 L c R a w) {i : Nat} (hi : i < cops.length) (hnL : ¬ L i) (hanc : ∀ k, (ancAt cops i).testBit k = true → L k) (hk : K i = .soft) :
    ∀ h, h < cops.length → K h = .hard → (L h ↔ h < i) := by
  intro h hh hkh
  constructor
  · intro hL
    rcases Nat.lt_trichotomy h i with h1 | h1 | h1
    · exact h1
    · subst h1; exact absurd hL hnL
    · exfalso
      obtain ⟨h', ⟨h2, h3, h4⟩, h5⟩ := exists_min (p := fun x => i < x ∧ x ≤ h ∧ K x = .hard) h ⟨h1, Nat.le_refl _, hkh⟩
      have hL' : L h' := by
        by_cases e : h' = h
        · rw [e]; exact hL
        · exact D.closed h hL h' (within_bit (Tt.isHard hh hkh).2.2.2.2.1 (Tt.hmask h4 h (by omega) (by omega)))
      have := Tt.soft hk h' h2 (by omega) fun x hx1 hx2 hx3 => by have := h5 x ⟨hx1, by omega, hx3⟩; omega
      exact hnL (D.closed h' hL' i (within_bit (Tt.isHard (i := h') (by omega) h4).2.2.2.2.2 this))
  · intro h1
    exact hanc h (within_bit (Tt.isSoft hi hk).2 (Tt.hmask hkh i h1 (by omega)))
theorem DI.seen (Tt : Tr call cops S K V) (D : DI P ρ E N cops S K V R0 a0 w0 L c R a w) {i : Nat} (hi : i < cops.length) (hanc : ∀ k, (ancAt cops i).testBit k = true → L k) (hcut : ∀ h, h < cops.length → K h = .hard → (L h ↔ h < i)) :
    ∀ id o, (heapFor (S i).base (ancAt cops i) (S i).pend).get id = some o → (S c).base.get id = some o ∨ ∃ j, L j ∧ (ancAt cops i).testBit j = true ∧ NewsAt S j id o ∧ ∀ h, j < h → h < c → K h = .hard → (ancAt cops h).testBit j = false := by
  intro id o h
  rcases heapFor_get h with ⟨j, l, h1, h2, h3⟩ | h1
  · obtain ⟨h4, h5, h6⟩ := Tt.pend i (by omega) j l h1
    have hcl := D.cutle
    exact .inr ⟨j, hanc j h2, h2, ⟨l, h5, h3⟩, fun x hx1 hx2 hx3 => h6 x hx1 (((D.cut x (by omega) hx3).symm.trans (hcut x (by omega) hx3)).1 hx2) hx3⟩
  · rw [D.base Tt (by omega) hcut] at h1; exact .inl h1
theorem DI.seenLt (Tt : Tr call cops S K V) (hm : ∀ a b, a ≤ b → b ≤ cops.length → (S a).next ≤ (S b).next) (wf : ∀ id, (S 0).next ≤ id → (S 0).base.get id = none) (O : DO P E N ops cops)
    (D : DI P ρ E N cops S K V R0 a0 w0 L c R a w) {i : Nat} (hi : i < cops.length) (hanc : ∀ k, (ancAt cops i).testBit k = true → L k) (hcut : ∀ h, h < cops.length → K h = .hard → (L h ↔ h < i)) :
    ∀ id, (S i).next ≤ id → (heapFor (S i).base (ancAt cops i) (S i).pend).get id = none := by
  intro id hid
  cases hg : (heapFor (S i).base (ancAt cops i) (S i).pend).get id with
  | none => rfl
  | some o =>
    exfalso
    have hcl := D.cutle
    rcases D.seen Tt hi hanc hcut id o hg with h | ⟨j, h1, h2, h3, _⟩
    · rcases D.bi id o h with h | ⟨j, h1, h2, h3, h4⟩
      · exact h (wf id (Nat.le_trans (hm 0 i (Nat.zero_le _) (by omega)) hid))
      · have hji : j < i := by
          rcases h4 with h4 | ⟨x, h5, h6, h7, h8⟩
          · exact ((D.cut j (by omega) h4).symm.trans (hcut j (by omega) h4)).1 h1
          · have := ((D.cut x (by omega) h7).symm.trans (hcut x (by omega) h7)).1 h6; omega
        have := hm (j + 1) i (by omega) (by omega)
        omega
    · have h4 := Tt.news (D.lt j h1) h3
      have hji := O.ancLt i (by rw [← O.len]; exact hi) j h2
      have := hm (j + 1) i (by omega) (by omega)
      omega
theorem Tr.newsHeap (Tt : Tr call cops S K V) {i : Nat} (hi : i < cops.length) {v : AV} {h : T AObj} {n n' : Nat} (he : (S (i + 1)).pend = newsOf i v h n n' (S i).pend) {id : Nat} {o : AObj} (hn : NewsAt S i id o) : h.get id = some o := by
  obtain ⟨l, hl, ho⟩ := hn
  rw [he] at hl
  rcases newsOf_mem hl with h1 | ⟨_, rfl⟩
  · exact absurd (Tt.pend i (by omega) _ _ h1).1 (Nat.lt_irrefl _)
  · exact (collect_mem ho).1
theorem sameAt_get {r : LoadR} : ∀ {l : List (T AObj)} {lo n : Nat}, sameAt r l lo n = true → ∀ k, lo ≤ k → k < lo + n → ∃ b, l[k]? = some b ∧ loadAt b r.p r.n = some r.v := by
  intro l
  induction l with
  | nil =>
    intro lo n h k h1 h2
    cases n with
    | zero => omega
    | succ n => cases lo <;> simp [sameAt] at h
  | cons b l ih =>
    intro lo n h k h1 h2
    cases n with
    | zero => omega
    | succ n =>
      cases lo with
      | zero =>
        simp only [sameAt] at h
        split at h
        · rename_i v hv
          simp only [Bool.and_eq_true] at h
          cases k with
          | zero => exact ⟨b, rfl, by rw [hv, AV.beq_eq h.1]⟩
          | succ k =>
            obtain ⟨b', x, y⟩ := ih h.2 k (by omega) (by omega)
            exact ⟨b', by simpa using x, y⟩
        · cases h
      | succ lo =>
        simp only [sameAt] at h
        cases k with
        | zero => omega
        | succ k =>
          obtain ⟨b', x, y⟩ := ih h k (by omega) (by omega)
          exact ⟨b', by simpa using x, y⟩
theorem checkLoads_get {hards : List (Nat × Nat)} {B : List (T AObj)} : ∀ {l : List LoadR}, checkLoads hards B l = true → ∀ r ∈ l, sameAt r B (countAnc r.anc hards) (lenL hards - countDesc r.j hards - countAnc r.anc hards + 1) = true := by
  intro l
  induction l with
  | nil => intro _ r hr; cases hr
  | cons x l ih =>
    intro h r hr
    simp only [checkLoads, Bool.and_eq_true] at h
    rcases List.mem_cons.1 hr with rfl | hr
    · exact h.1
    · exact ih h.2 r hr
theorem countAnc_append {anc : Nat} : ∀ {l m : List (Nat × Nat)}, countAnc anc (l ++ m) = countAnc anc l + countAnc anc m := by
  intro l
  induction l with
  | nil => intro m; simp [countAnc]
  | cons p l ih =>
    intro m
    obtain ⟨h, a⟩ := p
    simp only [List.cons_append, countAnc, ih]
    split <;> omega
theorem countAnc_le {anc : Nat} : ∀ {l : List (Nat × Nat)}, countAnc anc l ≤ l.length := by
  intro l
  induction l with
  | nil => simp [countAnc]
  | cons p l ih =>
    obtain ⟨h, a⟩ := p
    simp only [countAnc, List.length_cons]
    split <;> omega
theorem countAnc_zero {anc : Nat} : ∀ {l : List (Nat × Nat)}, (∀ p ∈ l, anc.testBit p.1 = false) → countAnc anc l = 0 := by
  intro l
  induction l with
  | nil => intro _; rfl
  | cons p l ih =>
    intro h
    obtain ⟨x, a⟩ := p
    have h1 : anc.testBit x = false := h (x, a) (by simp)
    have h2 := ih fun p hp => h p (List.mem_cons_of_mem _ hp)
    simp only [countAnc]
    split
    · rename_i hb; have : anc.testBit x = true := hb; rw [h1] at this; cases this
    · exact h2
theorem countDesc_append {j : Nat} : ∀ {l m : List (Nat × Nat)}, countDesc j (l ++ m) = countDesc j l + countDesc j m := by
  intro l
  induction l with
  | nil => intro m; simp [countDesc]
  | cons p l ih =>
    intro m
    obtain ⟨h, a⟩ := p
    simp only [List.cons_append, countDesc, ih]
    split <;> omega
theorem countDesc_le {j : Nat} : ∀ {l : List (Nat × Nat)}, countDesc j l ≤ l.length := by
  intro l
  induction l with
  | nil => simp [countDesc]
  | cons p l ih =>
    obtain ⟨h, a⟩ := p
    simp only [countDesc, List.length_cons]
    split <;> omega
theorem countDesc_zero {j : Nat} : ∀ {l : List (Nat × Nat)}, (∀ p ∈ l, p.2.testBit j = false) → countDesc j l = 0 := by
  intro l
  induction l with
  | nil => intro _; rfl
  | cons p l ih =>
    intro h
    obtain ⟨x, a⟩ := p
    have h1 : a.testBit j = false := h (x, a) (by simp)
    have h2 := ih fun p hp => h p (List.mem_cons_of_mem _ hp)
    simp only [countDesc]
    split
    · rename_i hb; have : a.testBit j = true := hb; rw [h1] at this; cases this
    · exact h2
theorem revAnd_eq {α : Type} : ∀ {l m : List α}, revAnd l m = l.reverse ++ m := by
  intro l
  induction l with
  | nil => intro m; rfl
  | cons x l ih => intro m; simp [revAnd, ih]
theorem DI.loads (Tt : Tr call cops S K V) (D : DI P ρ E N cops S K V R0 a0 w0 L c R a w) (hl : loadsOk (S cops.length) = true) {i : Nat} {o : COper} (ho : cops[i]? = some o) (hnL : ¬ L i) (hanc : ∀ k, (ancAt cops i).testBit k = true → L k) (hk : K i = .load) :
    ∃ x n, asLoad o.op = some (x, n) ∧ loadAt (S c).base (evA (S i).tm x) n = some (V i) := by
  have hi : i < cops.length := (List.getElem?_eq_some_iff.1 ho).1
  have hcl := D.cutle
  obtain ⟨x, n, h1, h2, h3⟩ := Tt.loads ho hk
  refine ⟨x, n, h1, ?_⟩
  have hm := h3 cops.length hi (Nat.le_refl _)
  unfold loadsOk at hl
  split at hl
  · rename_i he
    have hno : ∀ h, h < cops.length → K h ≠ .hard := by
      intro h hh hkh
      obtain ⟨X, hX, _⟩ := Tt.hards (c := h + 1) cops.length (by omega) (Nat.le_refl _)
      rw [(Tt.isHard hh hkh).2.2.1, he] at hX
      have := congrArg List.length hX
      simp at this
    rw [← D.base Tt (i := i) (by omega) fun h hh hkh => absurd hkh (hno h hh)]
    exact h2
  · have hs := checkLoads_get hl _ hm
    obtain ⟨X, hX, hXp⟩ := Tt.hards (c := c) cops.length hcl (Nat.le_refl _)
    have hB := (Tt.bases (c := c) cops.length hcl (Nat.le_refl _)).2
    simp only at hs
    have hca : countAnc o.anc (S cops.length).hards ≤ (S c).hards.length := by
      rw [hX, countAnc_append, countAnc_zero (l := X)]
      · have := countAnc_le (anc := o.anc) (l := (S c).hards); omega
      · intro p hp
        obtain ⟨h5, h6, h7, _⟩ := hXp p hp
        cases hb : o.anc.testBit p.1 with
        | false => rfl
        | true =>
          have := (D.cut p.1 h6 h7).1 (hanc p.1 (by rw [ancAt_eq ho]; exact hb))
          omega
    have hcd : countDesc i (S cops.length).hards ≤ X.length := by
      rw [hX, countDesc_append, countDesc_zero (l := (S c).hards)]
      · have := countDesc_le (j := i) (l := X); omega
      · intro p hp
        obtain ⟨h5, h6, h7⟩ := Tt.hardsOf hcl hp
        cases hb : p.2.testBit i with
        | false => rfl
        | true =>
          rw [h7] at hb
          exact absurd (D.closed p.1 ((D.cut p.1 (by omega) h6).2 h5) i hb) hnL
    have hlen : lenL (S cops.length).hards = X.length + (S c).hards.length := by rw [lenL_eq, hX]; simp
    rw [revAnd_eq] at hs
    obtain ⟨b, hb, hbl⟩ := sameAt_get hs (S c).hards.length hca (by rw [hlen]; omega)
    rw [hB] at hb; injection hb with hb; subst hb
    exact hbl
end
end Go.Ab

namespace Go.Ab
section
variable {P : Program} {ρ : Nat → Int} {E : T Unit} {N : Nat} {call : CallV} {ops : Array Oper} {cops : List COper} {S : Nat → DR} {K : Nat → Kd} {V : Nat → AV} {R0 : Inj} {a0 : Act} {w0 : World} {L : Nat → Prop} {c : Nat} {R : Inj} {a : Act} {w : World}
theorem Step.leaf {st' : St} {w' : World} {R' : Inj} {n n' low : Nat} (iv : ∀ id o, (T.leaf : T AObj).get id = some o → False) : Inv P ρ R (T.leaf : T AObj) w := ⟨fun id o h => (iv id o h).elim, fun i j o o' l l' h => (iv i o h).elim⟩
theorem inv_leaf : Inv P ρ R (T.leaf : T AObj) w := ⟨fun id o h => by simp [T.get_leaf] at h, fun i j o o' l l' h => by simp [T.get_leaf] at h⟩
theorem DI.step (CS : CallSound P ρ call) {F : Fence} (hF : Wide F) (O : DO P E N ops cops) (Tt : Tr call cops S K V) (hl : loadsOk (S cops.length) = true) (hcd : Conds ρ (S cops.length).tr) (wf : ∀ id, (S 0).next ≤ id → (S 0).base.get id = none)
    (D : DI P ρ E N cops S K V R0 a0 w0 L c R a w) {i : Nat} (hi : i < cops.length) (hnL : ¬ L i) (hanc : ∀ k, (ancAt cops i).testBit k = true → L k) {Q : Exit → Act → World → Prop} {next : Act → World → Prop}
    (hK : ∀ a' w' R' c', DI P ρ E N cops S K V R0 a0 w0 (with1 L i) c' R' a' w' → next a' w') : wpOpIn F 0 P ops Q i next a w := by
  have cm : CallMono call := CS.mono
  have hm : ∀ a b, a ≤ b → b ≤ cops.length → (S a).next ≤ (S b).next := fun x y h1 h2 => (Tt.mono cm y h1 h2).next
  have hci : ∀ x, x ≤ cops.length → Conds ρ (S x).tr := by
    intro x hx
    obtain ⟨l, e⟩ := (Tt.mono cm (a := x) cops.length hx (Nat.le_refl _)).tr
    intro p hp
    exact hcd p (by rw [e]; exact List.mem_append_right _ hp)
  have his : i < ops.size := by rw [← O.len]; exact hi
  obtain ⟨o, hoi⟩ : ∃ o, ops[i]? = some o := ⟨_, Array.getElem?_eq_getElem his⟩
  obtain ⟨av, hco, hav⟩ := O.get i o hoi
  have hdN : ∀ d, dstAt cops i = some d → d < N := fun d h => (O.dst i d h).1
  have fr : Fresh R (S i).next (S (i + 1)).next := fun id h1 h2 => D.fresh i hi hnL id h1 h2
  obtain ⟨tmx, ttr, htx⟩ := D.tr
  have C : Ctx ρ R E [] N tmx a := ⟨ttr, fun _ _ _ hf => (by cases hf), D.glob⟩
  have agree : ∀ {t : Nat}, t ∈ (cOper P E [] ops av o).reads → evA (S i).tm (.t t) = evA tmx (.t t) := fun hr => D.agree O Tt hi hnL hanc hco htx hr
  have hst := Tt.step i _ hco
  have hdst : ∀ {g : Option (CA × Bool)}, cGuard E [] ops o.guard = some g → dstAt cops i = o.dst := by
    intro g hg
    rw [dstAt_eq hco]; unfold cOper; rw [hg]; cases cOp P E [] o <;> rfl
  unfold wpOpIn
  rw [hoi]
  simp only
  cases hg : cGuard E [] ops o.guard with
  | none =>
    exfalso
    have hbad : (cOper P E [] ops av o).op = .bad 0 := by unfold cOper; rw [hg]
    have hgn : (cOper P E [] ops av o).guard = none := by unfold cOper; rw [hg]
    rcases hst.inv with ⟨_, _, st1, h1, _⟩ | ⟨st1, s1, _, h2, _⟩
    · rw [hgn] at h1; simp only [wantK, Except.ok.injEq, Prod.mk.injEq] at h1; cases h1.1
    · rcases h2.inv with ⟨_, st, h3, h4, _⟩ | ⟨_, st, h4, _⟩ | ⟨_, x, n, h4, _⟩ | ⟨_, st, h4, _⟩ | ⟨_, st, h4, _⟩
      · rw [hbad] at h4; simp only [evOp, opBad] at h4; cases h4
      · rw [hbad] at h4; simp only [evOp, opBad] at h4; cases h4
      · rw [hbad] at h4; simp only [asLoad] at h4; cases h4
      · rw [hbad] at h4; simp only [evOp, opBad] at h4; cases h4
      · rw [hbad] at h4; simp only [evOp, opBad] at h4; cases h4
  | some cg =>
    have hcg : (cOper P E [] ops av o).guard = cg := by unfold cOper; rw [hg]; cases cOp P E [] o <;> rfl
    have hdd : dstAt cops i = o.dst := hdst hg
    have wantd : ∀ b st1, wantK (cOper P E [] ops av o).guard (S i).tm ((S i).st .leaf (S i).low) (fun b st => .ok (b, st)) = .ok (b, st1) → SameSt ((S i).st .leaf (S i).low) st1 ∧ (Conds ρ st1.tr → Region.wanted o (yielded ops a.tmps) = b) := by
      intro b st1 h
      rw [wantK_congr (tm' := tmx) fun x want hx => by
        cases x with
        | t t => exact agree (reads_guard hx)
        | v v => rfl] at h
      rw [hcg] at h
      obtain ⟨b', st1', h1, h2, h3⟩ := want_ok C hg h
      simp only [Except.ok.injEq, Prod.mk.injEq] at h1
      obtain ⟨rfl, rfl⟩ := h1
      exact ⟨h2, fun hc => h3 hc o rfl⟩
    rcases hst.inv with ⟨hk, hv, st1, h1, hs1⟩ | ⟨st1, s1, h1, hop, hs1⟩
    ·
      obtain ⟨hsame, hwant⟩ := wantd false st1 h1
      have htr : (S (i + 1)).tr = st1.tr := by rw [hs1]
      have hnx : (S (i + 1)).next = (S i).next := by rw [hs1]
      rw [hwant (by rw [← htr]; exact hci _ (by omega))]
      simp only [Bool.false_eq_true, if_false]
      refine ⟨fun f _ => hF.fn f, ?_⟩
      rw [← hdd]
      have s0 : Step P ρ R (T.leaf : T AObj) w R (T.leaf : T AObj) w 0 (S i).next (S (i + 1)).next := by rw [hnx]; exact Step.refl inv_leaf _ _
      exact hK _ _ R c (D.soft Tt hm O.uniq hi hnL hanc (by rw [hk]; simp) hdN s0 (fun id o h => by simp [T.get_leaf] at h) (fun id o h => by simp [T.get_leaf] at h)
        (fun id o h => by have := (Tt.news hi h).1; rw [hk] at this; rcases this with h | h <;> cases h) (by rw [hv]; exact VR.undef))
    ·
      obtain ⟨hsame, hwant⟩ := wantd true st1 h1
      have cond1 : Conds ρ st1.tr ∧ True := by
        refine ⟨?_, trivial⟩
        have hsfx : ∃ l, (S (i + 1)).tr = l ++ st1.tr := by
          rw [hs1]
          rcases hop.inv with ⟨_, st, _, h4, rfl⟩ | ⟨_, st, h4, _, rfl⟩ | ⟨_, x, n, _, _, rfl⟩ | ⟨_, st, h4, _, _, rfl⟩ | ⟨_, st, h4, _, _, rfl⟩
          · exact (evOp_mono cm h4).tr
          · exact (evOp_mono cm h4).tr
          · exact ⟨[], rfl⟩
          · exact (evOp_mono cm h4).tr
          · exact (evOp_mono cm h4).tr
        obtain ⟨l, e⟩ := hsfx
        intro p hp
        exact hci (i + 1) (by omega) p (by rw [e]; exact List.mem_append_right _ hp)
      rw [hwant cond1.1]
      simp only [if_true]
      have hopc : (∃ co, cOp P E [] o = some co ∧ (cOper P E [] ops av o).op = co) ∨ ∃ k, (cOper P E [] ops av o).op = .bad k := by
        unfold cOper; rw [hg]
        cases hc : cOp P E [] o with
        | some co => exact .inl ⟨co, rfl, rfl⟩
        | none => exact .inr ⟨_, rfl⟩
      rcases hopc with ⟨co, hco', hcoe⟩ | ⟨kb, hbad⟩
      rotate_left
      · exfalso
        rcases hop.inv with ⟨_, st, h3, h4, _⟩ | ⟨_, st, h4, _⟩ | ⟨_, x, n, h4, _⟩ | ⟨_, st, h4, _⟩ | ⟨_, st, h4, _⟩
        · rw [hbad] at h4; simp only [evOp, opBad] at h4; cases h4
        · rw [hbad] at h4; simp only [evOp, opBad] at h4; cases h4
        · rw [hbad] at h4; simp only [asLoad] at h4; cases h4
        · rw [hbad] at h4; simp only [evOp, opBad] at h4; cases h4
        · rw [hbad] at h4; simp only [evOp, opBad] at h4; cases h4
      have args : ∀ x ∈ co.args, evA (S i).tm x = evA tmx x := by
        intro x hx
        cases x with
        | t t => exact agree (reads_arg (by rw [hcoe]; exact hx))
        | v v => rfl
      have hanc' : (cOper P E [] ops av o).anc = ancAt cops i := by rw [ancAt_eq hco]
      have soft : ∀ (hI : T AObj) (low nx : Nat) (st : St), evOp co (S i).tm { heap := hI, next := nx, low := low, sc := st1.sc, tr := st1.tr } call = .ok (V i, st) → K i ≠ .hard → (nx = (S i).next ∧ (S (i + 1)).next = st.next ∨ (S (i + 1)).next = (S i).next ∧ st.next = nx) → Conds ρ st.tr →
          (∀ id o, hI.get id = some o → Live cops S K L c id o) → (∀ id, nx ≤ id → hI.get id = none) → (∀ id o, hI.get id = some o → id < st.low) → (∀ id o, NewsAt S i id o → st.heap.get id = some o) → o.wpIn F 0 P a w next Q := by
        intro hI low nx st hev hkn hnx hct hlive hwf hlow hnews
        rw [evOp_congr args] at hev
        have iv : InvW P ρ R ({ heap := hI, next := nx, low := low, sc := st1.sc, tr := st1.tr } : St) w := ⟨⟨fun id o h => D.live id o (hlive id o h), fun i1 i2 o1 o2 l1 l2 h1 h2 => D.inj i1 i2 o1 o2 l1 l2 (hlive _ _ h1) (hlive _ _ h2)⟩, hwf⟩
        have hfr : Fresh R nx st.next := by
          rcases hnx with ⟨e1, e2⟩ | ⟨e1, e2⟩
          · rw [e1, ← e2]; exact fr
          · intro id h1 h2; omega
        refine op_wp hF CS C hco' hev iv hfr hct fun cv w' R' hv hs => ?_
        rw [← hdd]
        have s' : Step P ρ R hI w R' st.heap w' st.low (S i).next (S (i + 1)).next := by
          rcases hnx with ⟨e1, e2⟩ | ⟨e1, e2⟩
          · rw [e2, ← e1]; exact hs
          · rw [e1]
            have hs : Step P ρ R hI w R' st.heap w' st.low nx st.next := hs
            rw [e2] at hs
            exact ⟨hs.inv, fun id _ => hs.ext id (by omega), hs.size, hs.keep, hs.news, hs.tape, hs.os, hs.out, fun id h _ => hs.dom id h (by omega)⟩
        exact hK _ _ R' c (D.soft Tt hm O.uniq hi hnL hanc hkn hdN s' hlive hlow hnews hv)
      have quietNews : (K i = .quiet ∨ K i = .load) → ∀ (h : T AObj) id o, NewsAt S i id o → h.get id = some o := by
        intro hk h id o hn
        have := (Tt.news hi hn).1
        rcases hk with hk | hk <;> rw [hk] at this <;> rcases this with h | h <;> cases h
      have hci1 := hci (i + 1) (by omega)
      rcases hop.inv with ⟨hk, st, h3, h4, h5⟩ | ⟨hk, st, h4, h6, h5⟩ | ⟨hk, x, n, h4, h6, h5⟩ | ⟨hk, st, h4, h6, h7, h5⟩ | ⟨hk, st, h4, h6, h7, h5⟩
      ·
        rw [hcoe] at h3 h4
        have hsm := evOp_same h3 h4
        have e1 : (S (i + 1)).next = (S i).next := by rw [hs1, h5]
        have e2 : (S (i + 1)).tr = st.tr := by rw [hs1, h5]
        exact soft .leaf (S i).low (S i).next st h4 (by rw [hk]; simp) (.inr ⟨e1, hsm.next⟩) (by rw [← e2]; exact hci1) (fun id o h => by simp [T.get_leaf] at h) (fun id _ => rfl) (fun id o h => by simp [T.get_leaf] at h) (quietNews (.inl hk) _)
      ·
        rw [hcoe] at h4
        have e1 : (S (i + 1)).next = st.next := by rw [hs1, h5]
        have e2 : (S (i + 1)).tr = st.tr := by rw [hs1, h5]
        have e3 : (S (i + 1)).pend = newsOf i (V i) st.heap (S i).next st.next (S i).pend := by rw [hs1, h5]
        exact soft .leaf (S i).next (S i).next st h4 (by rw [hk]; simp) (.inl ⟨rfl, e1⟩) (by rw [← e2]; exact hci1) (fun id o h => by simp [T.get_leaf] at h) (fun id _ => rfl) (fun id o h => by simp [T.get_leaf] at h) (fun id o h => Tt.newsHeap hi e3 h)
      ·
        obtain ⟨x', n', h7, h8⟩ := D.loads Tt hl hco hnL hanc hk
        rw [h4] at h7; simp only [Option.some.injEq, Prod.mk.injEq] at h7
        obtain ⟨rfl, rfl⟩ := h7
        rw [hcoe] at h4
        have e1 : (S (i + 1)).next = (S i).next := by rw [hs1, h5]
        have e2 : (S (i + 1)).tr = st1.tr := by rw [hs1, h5]
        have hev : evOp co (S i).tm { heap := (S c).base, next := (S cops.length).next, low := (S cops.length).next, sc := st1.sc, tr := st1.tr } call = .ok (V i, { heap := (S c).base, next := (S cops.length).next, low := (S cops.length).next, sc := st1.sc, tr := st1.tr }) := by
          rw [(asLoad_ev h4).1]; simp only; rw [h8]; rfl
        have hclt : ∀ id o, (S c).base.get id = some o → id < (S cops.length).next := by
          intro id o h
          rcases D.bi id o h with h | ⟨j, h1, h2, h3, _⟩
          · rcases Nat.lt_or_ge id (S 0).next with h1 | h1
            · exact Nat.lt_of_lt_of_le h1 (hm 0 _ (Nat.zero_le _) (Nat.le_refl _))
            · exact absurd (wf id h1) h
          · have := D.cutle
            exact Nat.lt_of_lt_of_le h3 (hm (j + 1) _ (by omega) (Nat.le_refl _))
        exact soft _ _ _ _ hev (by rw [hk]; simp) (.inr ⟨e1, rfl⟩) (by rw [← e2]; exact hci1) (fun id o h => .inl h) (fun id h => by
          cases hg : (S c).base.get id with
          | none => rfl
          | some o => have := hclt id o hg; omega) hclt (quietNews (.inr hk) _)
      ·
        rw [hcoe, hanc'] at h4
        have e1 : (S (i + 1)).next = st.next := by rw [hs1, h5]
        have e2 : (S (i + 1)).tr = st.tr := by rw [hs1, h5]
        have e3 : (S (i + 1)).pend = newsOf i (V i) st.heap (S i).next st.next (S i).pend := by rw [hs1, h5]
        have hcut := D.cutSoft Tt hi hnL hanc hk
        have hseen := D.seen Tt hi hanc hcut
        have hlt := D.seenLt Tt hm wf O hi hanc hcut
        have h7 : (S i).next ≤ st.low := h7
        refine soft _ _ (S i).next st h4 (by rw [hk]; simp) (.inl ⟨rfl, e1⟩) (by rw [← e2]; exact hci1) (fun id o h => ?_) hlt (fun id o h => ?_) (fun id o h => Tt.newsHeap hi e3 h)
        · rcases hseen id o h with h | ⟨j, h8, _, h9, h10⟩
          · exact .inl h
          · exact .inr ⟨j, h8, h9, h10⟩
        · rcases Nat.lt_or_ge id (S i).next with h1 | h1
          · omega
          · have h : (heapFor (S i).base (ancAt cops i) (S i).pend).get id = some o := h
            rw [hlt id h1] at h; cases h
      ·
        rw [hcoe, hanc'] at h4
        have e1 : (S (i + 1)).next = st.next := by rw [hs1, h5]
        have e2 : (S (i + 1)).tr = st.tr := by rw [hs1, h5]
        have e3 : (S (i + 1)).base = st.heap := by rw [hs1, h5]
        have e4 : (S (i + 1)).low ≤ st.low := by rw [hs1, h5]; exact (lowered_le _ _).2
        have hcut := D.cutHard Tt hi hnL hanc hk
        have hseen := D.seen Tt hi hanc hcut
        have hlt := D.seenLt Tt hm wf O hi hanc hcut
        rw [evOp_congr args] at h4
        have hlive : ∀ id o, (heapFor (S i).base (ancAt cops i) (S i).pend).get id = some o → Live cops S K L c id o := by
          intro id o h
          rcases hseen id o h with h | ⟨j, h8, _, h9, h10⟩
          · exact .inl h
          · exact .inr ⟨j, h8, h9, h10⟩
        have iv : InvW P ρ R ({ heap := heapFor (S i).base (ancAt cops i) (S i).pend, next := (S i).next, low := (S i).next, sc := st1.sc, tr := st1.tr } : St) w :=
          ⟨⟨fun id o h => D.live id o (hlive id o h), fun i1 i2 o1 o2 l1 l2 h1 h2 => D.inj i1 i2 o1 o2 l1 l2 (hlive _ _ h1) (hlive _ _ h2)⟩, hlt⟩
        refine op_wp hF CS C hco' h4 iv (by rw [← e1]; exact fr) (by rw [← e2]; exact hci1) fun cv w' R' hv hs => ?_
        rw [← hdd]
        have s' : Step P ρ R (heapFor (S i).base (ancAt cops i) (S i).pend) w R' (S (i + 1)).base w' st.low (S i).next (S (i + 1)).next := by rw [e3, e1]; exact hs
        exact hK _ _ R' (i + 1) (D.hard Tt hm O.uniq wf hi hnL hanc (O.ancLt i his) hk hdN hcut s' hseen (Nat.le_trans (Tt.mono cm (a := i + 1) cops.length (by omega) (Nat.le_refl _)).low e4) hv)
end
end Go.Ab

namespace Go.Ab
section
variable {P : Program} {ρ : Nat → Int} {E : T Unit} {N : Nat} {call : CallV} {ops : Array Oper} {cops : List COper} {S : Nat → DR} {K : Nat → Kd} {V : Nat → AV} {R0 : Inj} {a0 : Act} {w0 : World} {L : Nat → Prop} {c : Nat} {R : Inj} {a : Act} {w : World}
def unl (m : Nat) (listed : Array Bool) : Nat := ((List.range m).filter fun j => !listed.getD j true).length
theorem filter_less {p q : Nat → Bool} : ∀ {l : List Nat}, (∀ x, q x = true → p x = true) → (∃ x ∈ l, p x = true ∧ q x = false) → (l.filter q).length < (l.filter p).length := by
  intro l
  induction l with
  | nil => rintro _ ⟨x, h, _⟩; cases h
  | cons y l ih =>
    rintro hs ⟨x, hx, hp, hq⟩
    have le : ∀ {l : List Nat}, (l.filter q).length ≤ (l.filter p).length := by
      intro l
      induction l with
      | nil => simp
      | cons z l ih2 =>
        simp only [List.filter_cons]
        cases hq' : q z with
        | true => rw [hs z hq']; simp; exact ih2
        | false => cases p z <;> simp <;> omega
    simp only [List.filter_cons]
    rcases List.mem_cons.1 hx with rfl | hx
    · rw [hp, hq]; simp; have := le (l := l); omega
    · have := ih hs ⟨x, hx, hp, hq⟩
      cases hq' : q y with
      | true => rw [hs y hq']; simp; exact this
      | false => cases p y <;> simp <;> omega
theorem DI.any (CS : CallSound P ρ call) {F : Fence} (hF : Wide F) (O : DO P E N ops cops) (Tt : Tr call cops S K V) (hl : loadsOk (S cops.length) = true) (hcd : Conds ρ (S cops.length).tr) (wf : ∀ id, (S 0).next ≤ id → (S 0).base.get id = none) {Q : Exit → Act → World → Prop}
    (hQ : ∀ L c R a w, (∀ j, j < cops.length → L j) → DI P ρ E N cops S K V R0 a0 w0 L c R a w → Q .normal a w) :
    ∀ (fuel : Nat) (listed : Array Bool) (L : Nat → Prop) (c : Nat) (R : Inj) (a : Act) (w : World), listed.size = ops.size → (∀ j, L j ↔ listed.getD j false = true) → unl ops.size listed ≤ fuel → DI P ρ E N cops S K V R0 a0 w0 L c R a w →
      wpAnyIn F 0 P .any ops Q fuel listed a w := by
  have full : ∀ (listed : Array Bool) (L : Nat → Prop), listed.size = ops.size → (∀ j, L j ↔ listed.getD j false = true) → Region.ready .any ops listed = [] → ∀ j, j < cops.length → L j := by
    intro listed L hsz hL hr j
    rw [O.len]
    induction j using Nat.strongRecOn with
    | _ j ih =>
      intro hj
      rw [hL]
      cases hb : listed.getD j true with
      | true =>
        have hj' : j < listed.size := by omega
        simp only [Array.getD_eq_getD_getElem?, Array.getElem?_eq_getElem hj', Option.getD_some] at hb ⊢
        exact hb
      | false =>
        exfalso
        have ho := Array.getElem?_eq_getElem hj
        have : j ∈ Region.ready .any ops listed := mem_ready.2 ⟨hb, _, ho, fun e he hbd => (hL _).1 (ih e.on ((O.edge j _ ho).1 e he hbd) (by have := (O.edge j _ ho).1 e he hbd; omega))⟩
        rw [hr] at this; cases this
  intro fuel
  induction fuel with
  | zero =>
    intro listed L c R a w hsz hL hu D
    have hr : Region.ready .any ops listed = [] := by
      cases hh : Region.ready .any ops listed with
      | nil => rfl
      | cons i rest =>
        exfalso
        have hi : i ∈ Region.ready .any ops listed := by rw [hh]; simp
        obtain ⟨h1, o, ho, _⟩ := mem_ready.1 hi
        have hlt : i < ops.size := (Array.getElem?_eq_some_iff.1 ho).1
        have : i ∈ (List.range ops.size).filter fun j => !listed.getD j true := List.mem_filter.2 ⟨List.mem_range.2 hlt, by rw [h1]; rfl⟩
        have := List.length_pos_of_mem this
        unfold unl at hu; omega
    exact ⟨hr, hQ L c R a w (full listed L hsz hL hr) D⟩
  | succ fuel ih =>
    intro listed L c R a w hsz hL hu D
    refine ⟨fun hr => hQ L c R a w (full listed L hsz hL hr) D, fun i hi => ?_⟩
    obtain ⟨h1, o, ho, hedge⟩ := mem_ready.1 hi
    have hlt : i < ops.size := (Array.getElem?_eq_some_iff.1 ho).1
    have hlt' : i < listed.size := by omega
    have hnL : ¬ L i := by
      rw [hL]
      simp only [Array.getD_eq_getD_getElem?, Array.getElem?_eq_getElem hlt', Option.getD_some] at h1 ⊢
      rw [h1]; simp
    have hanc : ∀ k, (ancAt cops i).testBit k = true → L k := by
      intro k hk
      obtain ⟨e, he, hb, h⟩ := (O.edge i o ho).2 k hk
      have hLe : L e.on := (hL _).2 (hedge e he hb)
      rcases h with rfl | h
      · exact hLe
      · exact D.closed _ hLe k h
    refine D.step CS hF O Tt hl hcd wf (by rw [O.len]; exact hlt) hnL hanc fun a' w' R' c' D' => ih (listed.setIfInBounds i true) (with1 L i) c' R' a' w' (by simpa using hsz) (fun j => ?_) ?_ D'
    · by_cases hji : j = i
      · subst hji
        refine ⟨fun _ => ?_, fun _ => .inr rfl⟩
        simp [Array.getD_eq_getD_getElem?, Array.getElem?_setIfInBounds_self_of_lt hlt']
      · rw [Go.getD_set_ne false (fun h => hji h.symm), ← hL]
        exact ⟨fun h => h.resolve_right hji, .inl⟩
    · have : unl ops.size (listed.setIfInBounds i true) < unl ops.size listed := by
        refine filter_less (fun x hx => ?_) ⟨i, List.mem_range.2 hlt, by rw [h1]; rfl, ?_⟩
        · by_cases hxi : x = i
          · subst hxi; simp [Array.getD_eq_getD_getElem?, Array.getElem?_setIfInBounds_self_of_lt hlt'] at hx
          · rw [Go.getD_set_ne true (fun h => hxi h.symm)] at hx; exact hx
        · simp [Array.getD_eq_getD_getElem?, Array.getElem?_setIfInBounds_self_of_lt hlt']
      omega
theorem draw_ok (hord : P.follows .mixedOrders = true) (CS : CallSound P ρ call) : DrawOK P ρ call := by
  intro E N F hF id ops tm tm' st st' hok h R a w t gl iv hf hcd Q hQ
  have O := drawOk_DO hok
  generalize hcops : cDrawOpers P E ops ops.toList (Region.before ops).toList = cops at *
  obtain ⟨hp, n0, lo, sc, tr⟩ := st
  simp only [evDrawAll] at h
  split at h
  · cases h
  rename_i s he
  split at h
  rotate_left
  · cases h
  rename_i hlo
  simp only [Except.ok.injEq, Prod.mk.injEq] at h
  obtain ⟨rfl, rfl⟩ := h
  obtain ⟨S, K, V, h0, hm, hst⟩ := evDraw_trace cops 0 _ _ he
  rw [Nat.zero_add] at hm
  have Tt : Tr call cops S K V := ⟨fun i o ho => by have := hst i o ho; simpa using this, by rw [h0], by rw [h0], by rw [h0]⟩
  have cm : CallMono call := CS.mono
  rw [← hm] at hlo hf hcd hQ
  have hcd : Conds ρ (S cops.length).tr := hcd
  have hf : Fresh R n0 (S cops.length).next := hf
  have e0 : (S 0).next = n0 := by rw [h0]
  have eb : (S 0).base = hp := by rw [h0]
  have et : (S 0).tm = tm := by rw [h0]
  have wf : ∀ id, (S 0).next ≤ id → (S 0).base.get id = none := by rw [e0, eb]; exact iv.wf
  refine wpIn_region_any hord ?_
  let w0 : World := { w with drawn := w.drawn + 1 }
  have D0 : DI P ρ E N cops S K V R a w0 (fun _ => False) 0 R a w0 := by
    refine ⟨fun j h => h.elim, fun j h => h.elim, Nat.zero_le _, fun h _ _ => ⟨fun h => h.elim, fun h => by omega⟩, ⟨tm, t, fun x => ⟨fun k h => h.elim, fun _ => by rw [et]⟩⟩, rfl, gl, fun _ _ => rfl, fun j hj _ id h1 h2 => ?_, fun id o h => ?_, fun i j o o' l l' h1 h2 => ?_, fun id o h => ?_,
      Nat.le_refl _, fun _ _ => rfl, fun id o l h hr => ?_, rfl, rfl, rfl⟩
    · have m1 := (Tt.mono cm (a := 0) j (Nat.zero_le _) (by omega)).next
      have m2 := (Tt.mono cm (a := j + 1) cops.length (by omega) (Nat.le_refl _)).next
      exact hf id (by omega) (by omega)
    · rcases h with h | ⟨j, h, _⟩
      · rw [eb] at h; exact iv.inv.live id o h
      · exact h.elim
    · rcases h1 with h1 | ⟨j, h, _⟩
      · rcases h2 with h2 | ⟨j, h, _⟩
        · rw [eb] at h1 h2; exact iv.inv.inj i j o o' l l' h1 h2
        · exact h.elim
      · exact h.elim
    · left; rw [h]; simp
    · rcases h with h | ⟨j, h, _⟩
      · exact .inl ⟨o, h, hr⟩
      · exact h.elim
  refine DI.any CS hF O Tt hlo hcd wf (R0 := R) (a0 := a) (w0 := w0) (fun L c R' a' w' hL D => ?_) ops.size _ _ 0 R a w0 (by simp) (fun j => ?_) ?_ D0
  · have hcl := D.cutle
    have hbase : (S cops.length).base = (S c).base := Tt.base cops.length hcl (Nat.le_refl _) fun h h1 h2 hk => by have := (D.cut h h2 hk).1 (hL h h2); omega
    have hlive : ∀ id o, (heapAll (S cops.length).base (S cops.length).pend).get id = some o → Live cops S K L c id o := by
      intro id o h
      rcases heapAll_get h with ⟨j, l, h1, h2⟩ | h1
      · obtain ⟨h3, h4, h5⟩ := Tt.pend cops.length (Nat.le_refl _) j l h1
        exact .inr ⟨j, hL j h3, ⟨l, h4, h2⟩, fun h h6 h7 h8 => h5 h h6 (by omega) h8⟩
      · exact .inl (by rw [← hbase]; exact h1)
    obtain ⟨tmx, ttr, htx⟩ := D.tr
    refine hQ a' w' R' ⟨ttr.size, fun x hx => ?_⟩ D.defers ⟨⟨fun id o h => D.live id o (hlive id o h), fun i j o o' l l' h1 h2 => D.inj i j o o' l l' (hlive _ _ h1) (hlive _ _ h2)⟩, fun id hid => ?_, D.size, fun b hb => ?_, fun id o l h hr => ?_, D.tape, D.os, D.out, fun id h0' hid => ?_⟩
    · have e : evA (S cops.length).tm (.t x) = evA tmx (.t x) := by
        have htm := Tt.tm O.uniq cops.length (Nat.le_refl _) x
        by_cases hex : ∃ k, k < cops.length ∧ dstAt cops k = some x
        · obtain ⟨k, hk, hkx⟩ := hex
          rw [htm.1 k hk hkx, (htx x).1 k (hL k hk) hkx]
        · rw [htm.2 fun k hk hkx => hex ⟨k, hk, hkx⟩, (htx x).2 fun k hk hkx => hex ⟨k, D.lt k hk, hkx⟩]
      rw [e]
      exact ttr.rel x hx
    · refine D.ext id fun hc => hid ⟨by rw [← e0]; exact hc.1, hc.2⟩
    · refine D.keep b fun hc => hb ?_
      rw [eb] at hc
      exact hc
    · have := D.news id o l (hlive id o h) hr
      rw [eb] at this
      exact this
    · cases hg : (heapAll (S cops.length).base (S cops.length).pend).get id with
      | none => rfl
      | some o =>
        exfalso
        have inrange : ∀ j, j < cops.length → (S j).next ≤ id → id < (S (j + 1)).next → False := fun j hj h1 h2 => by
          have m1 := (Tt.mono cm (a := 0) j (Nat.zero_le _) (by omega)).next
          have m2 := (Tt.mono cm (a := j + 1) cops.length (by omega) (Nat.le_refl _)).next
          exact hid ⟨by show n0 ≤ id; omega, by show id < (S cops.length).next; omega⟩
        rcases hlive id o hg with h | ⟨j, h1, h2, _⟩
        · rcases D.bi id o h with h | ⟨j, h1, h2, h3, _⟩
          · rw [eb] at h; exact h h0'
          · exact inrange j (by omega) h2 h3
        · have := Tt.news (D.lt j h1) h2
          exact inrange j (D.lt j h1) this.2.1 this.2.2
  · simp only [false_iff, Bool.not_eq_true]
    simp only [Array.getD_eq_getD_getElem?, Array.getElem?_replicate]
    split <;> rfl
  · unfold unl
    have := List.length_filter_le (fun j => !(Array.replicate ops.size false).getD j true) (List.range ops.size)
    simpa using this
end
theorem code_sound {P : Program} {ρ : Nat → Int} {G : Env} (OK : EnvOK P ρ G) (n : Nat) : EvSound P ρ (ev G n) ∧ EvMono (ev G n) := ev_sound OK (fun _ CS => draw_ok OK.orders CS) n
theorem call_sound {P : Program} {ρ : Nat → Int} {G : Env} (OK : EnvOK P ρ G) {n : Nat} {f : Nat} {args : List AV} {st st' : St} {v : AV} (h : callFn G (ev G n) f args st = .ok (v, st')) {R : Inj} {w : World} {cargs : Array Value}
    (ha : VRs ρ R args cargs.toList) (gl : Glob R) (iv : InvW P ρ R st w) (hf : Fresh R st.next st'.next) (hcd : Conds ρ st'.tr) :
    Upon P (fun cv w' => ∃ R', VR ρ R' v cv ∧ Step P ρ R st.heap w R' st'.heap w' st'.low st.next st'.next) ((callFunc f cargs).run P w) :=
  callFn_run OK (code_sound OK n).1 (code_sound OK n).2 h ha gl iv hf hcd
#print axioms call_sound
end Go.Ab

namespace Go.Ab
section
variable {P : Program} {ρ : Nat → Int} {R : Inj} {μ : Mv} {σ : List SE} {n : Nat} {w : World}
theorem SE.eqb_eq : ∀ {a b : SE}, SE.eqb a b = true → a = b := by
  intro a
  induction a with
  | lit a => intro b h; cases b <;> simp only [SE.eqb] at h <;> first | (cases h; done) | (rw [ieq_eq] at h; simp only [decide_eq_true_eq] at h; rw [h])
  | var i => intro b h; cases b <;> simp only [SE.eqb] at h <;> first | (cases h; done) | rw [beq_true h]
  | bin o k a b iha ihb =>
    intro c h
    cases c <;> simp only [SE.eqb] at h <;> try (cases h; done)
    simp only [Bool.and_eq_true, beq_iff_eq] at h
    obtain ⟨rfl, h2, h3, h4⟩ := h
    rw [keq_true h2, iha h3, ihb h4]
  | conv k a iha =>
    intro c h
    cases c <;> simp only [SE.eqb] at h <;> try (cases h; done)
    simp only [Bool.and_eq_true] at h
    rw [keq_true h.1, iha h.2]
theorem SB.eqb_eq : ∀ {a b : SB}, SB.eqb a b = true → a = b := by
  intro a
  induction a with
  | cmp o a b =>
    intro c h
    cases c <;> simp only [SB.eqb] at h <;> try (cases h; done)
    simp only [Bool.and_eq_true, beq_iff_eq] at h
    obtain ⟨rfl, h2, h3⟩ := h
    rw [SE.eqb_eq h2, SE.eqb_eq h3]
  | not a ih =>
    intro c h
    cases c <;> simp only [SB.eqb] at h <;> try (cases h; done)
    rw [ih h]
noncomputable def reρ (σ : List SE) (ρ : Nat → Int) : Nat → Int := fun i => (σ.getD i (.lit 0)).eval ρ
noncomputable def reR (μ : Mv) (n : Nat) (R : Inj) : Inj := fun id => if id < n then R (μ.at id) else none
theorem SE.eval_sub (e : SE) : (e.sub σ).eval ρ = e.eval (reρ σ ρ) := by
  induction e with
  | lit a => rfl
  | var i => rfl
  | bin o k a b iha ihb => simp only [SE.sub, SE.eval, iha, ihb]
  | conv k a iha => simp only [SE.sub, SE.eval, iha]
theorem SB.eval_sub (s : SB) : (s.sub σ).eval ρ = s.eval (reρ σ ρ) := by
  induction s with
  | cmp o a b => simp only [SB.sub, SB.eval, SE.eval_sub]
  | not a ih => simp only [SB.sub, SB.eval, ih]
theorem okId_R {i j : Nat} (h : okId μ n i j = true) {l : Loc} (hR : R j = some l) : reR μ n R i = some l := by
  simp only [okId, Bool.and_eq_true] at h
  have h1 := beq_true h.1
  have h2 := blt_true h.2
  simp only [reR, if_pos h2, h1, hR]
theorem okAll_VRs {f : AV → AV → Bool} {ρ' : Nat → Int} {R' : Inj} (hf : ∀ x y, f x y = true → ∀ cv, VR ρ R y cv → VR ρ' R' x cv) : ∀ {l m : List AV}, okAll f l m = true → ∀ {cs : List Value}, VRs ρ R m cs → VRs ρ' R' l cs := by
  intro l
  induction l with
  | nil =>
    intro m h cs hv
    cases m with
    | nil => cases hv; exact .nil
    | cons => cases h
  | cons x l ih =>
    intro m h cs hv
    cases m with
    | nil => cases h
    | cons y m =>
      simp only [okAll, Bool.and_eq_true] at h
      cases hv with
      | cons _ v _ vs h1 h2 => exact .cons _ _ _ _ (hf x y h.1 v h1) (ih h.2 h2)
theorem notAgg_one {y : AV} {cv : Value} (h : notAgg y = true) (hv : VR ρ R y cv) : cv.cells = #[cv] := by
  cases hv <;> first | rfl | assumption | cases h
theorem okV_VR : ∀ f x y, okV μ σ n f x y = true → ∀ cv, VR ρ R y cv → VR (reρ σ ρ) (reR μ n R) x cv := by
  intro f
  induction f with
  | zero => intro x y h; cases h
  | succ f ih =>
    intro x y h cv hv
    unfold okV at h
    cases x with
    | any => exact .any cv (notAgg_one h hv)
    | bool b =>
      simp only at h; split at h
      · rw [beq_iff_eq] at h; subst h; cases hv; exact .bool _
      · cases h
    | sbool s =>
      simp only at h; split at h
      · have h2 := SB.eqb_eq h
        cases hv with
        | sbool _ b hb => exact .sbool _ _ (by rw [← SB.eval_sub, h2]; exact hb)
      · cases h
    | int k a =>
      simp only at h; split at h
      · simp only [Bool.and_eq_true] at h
        rw [keq_true h.1]
        have := h.2; rw [ieq_eq] at this; simp only [decide_eq_true_eq] at this
        subst this; cases hv; exact .int _ _
      · cases h
    | sint k e =>
      simp only at h; split at h
      · simp only [Bool.and_eq_true] at h
        rw [keq_true h.1]
        have h2 := SE.eqb_eq h.2
        cases hv with
        | sint _ _ m hm => exact .sint _ _ _ (by rw [← SE.eval_sub, h2]; exact hm)
      · simp only [Bool.and_eq_true] at h
        rw [keq_true h.1]
        have h2 := SE.eqb_eq h.2
        cases hv with
        | int _ m => exact .sint _ _ _ (by rw [← SE.eval_sub, h2]; rfl)
      · cases h
    | str a b =>
      simp only at h; split at h
      · simp only [Bool.and_eq_true] at h
        rw [beq_true h.1, beq_true h.2]
        cases hv with
        | str _ _ s hs hb => exact .str _ _ s hs hb
      · cases h
    | nilptr => simp only at h; split at h <;> first | (cases hv; exact .nilptr) | cases h
    | ptr i o =>
      simp only at h; split at h
      · simp only [Bool.and_eq_true] at h
        rw [beq_true h.2]
        cases hv with
        | ptr _ _ l hR => exact .ptr _ _ l (okId_R h.1 hR)
      · cases h
    | nilslice => simp only at h; split at h <;> first | (cases hv; exact .nilslice) | cases h
    | slice i o l c ex z =>
      simp only at h; split at h
      · simp only [Bool.and_eq_true, beq_iff_eq] at h
        obtain ⟨h1, h2, h3, h4, h5, h6⟩ := h
        rw [beq_true h2, beq_true h3, beq_true h4, h5, beq_true h6]
        cases hv with
        | slice _ _ _ _ _ _ l a C h ha hl hc hx hr => exact .slice _ _ _ _ _ _ l a C (okId_R h1 h) ha hl hc hx hr
      · cases h
    | nilmap => simp only at h; split at h <;> first | (cases hv; exact .nilmap) | cases h
    | map i =>
      simp only at h; split at h
      · cases hv with
        | map _ l hR => exact .map _ l (okId_R h hR)
      · cases h
    | func g a b =>
      cases g with
      | yield => cases h
      | func g =>
        simp only at h; split at h
        · simp only [Bool.and_eq_true] at h
          rw [beq_true h.1]
          cases hv with
          | func _ _ _ fs cs h1 h2 => exact .func _ _ _ fs cs (okAll_VRs ih h.2.1 h1) (okAll_VRs ih h.2.2 h2)
        · cases h
    | nilFunc => simp only at h; split at h <;> first | (cases hv; exact .nilFunc) | cases h
    | iface t v =>
      simp only at h; split at h
      · simp only [Bool.and_eq_true] at h
        rw [beq_true h.1]
        cases hv with
        | iface _ _ v hv => exact .iface _ _ v (ih _ _ h.2 _ hv)
      · cases h
    | nilIface => simp only at h; split at h <;> first | (cases hv; exact .nilIface) | cases h
    | agg l =>
      simp only at h; split at h
      · cases hv with
        | agg _ cs hs => exact .agg _ cs (okAll_VRs ih h hs)
      · cases h
    | tuple l =>
      simp only at h; split at h
      · cases hv with
        | tuple _ cs hs => exact .tuple _ cs (okAll_VRs ih h hs)
      · cases h
theorem okEs_ERs {f : AV → AV → Bool} {ρ' : Nat → Int} {R' : Inj} (hf : ∀ x y, f x y = true → ∀ cv, VR ρ R y cv → VR ρ' R' x cv) : ∀ {l m : List (AV × AV × Nat)}, okEs f l m = true → ∀ {cs : List MapEntry}, ERs ρ R m cs → ERs ρ' R' l cs := by
  intro l
  induction l with
  | nil =>
    intro m h cs hv
    cases m with
    | nil => cases hv; exact .nil
    | cons => cases h
  | cons x l ih =>
    intro m h cs hv
    obtain ⟨k, v, b⟩ := x
    cases m with
    | nil => cases h
    | cons y m =>
      obtain ⟨k', v', b'⟩ := y
      simp only [okEs, Bool.and_eq_true] at h
      obtain ⟨h1, h2, h3, h4⟩ := h
      cases hv with
      | cons _ e _ es he hes =>
        cases he with
        | mk _ _ _ ck cv hk hv =>
          rw [beq_true h3]
          exact .cons _ _ _ _ (.mk _ _ _ _ _ (hf _ _ h1 _ hk) (hf _ _ h2 _ hv)) (ih h4 hes)
theorem okT_get {α : Type} {f : α → α → Bool} : ∀ {t t' : T α}, okT f t t' = true → ∀ {i : Nat} {x : α}, t.get i = some x → ∃ y, t'.get i = some y ∧ f x y = true := by
  intro t
  induction t with
  | leaf => intro t' _ i x h; rw [T.get_leaf] at h; cases h
  | node l o r ihl ihr =>
    intro t' h i x hg
    cases t' with
    | leaf =>
      simp only [okT, Bool.and_eq_true] at h
      obtain ⟨h1, h2, h3⟩ := h
      cases i with
      | zero => rw [T.get_zero] at hg; subst hg; cases h1
      | succ k =>
        rw [T.get_succ] at hg
        split at hg
        · obtain ⟨y, hy, _⟩ := ihr h3 hg; rw [T.get_leaf] at hy; cases hy
        · obtain ⟨y, hy, _⟩ := ihl h2 hg; rw [T.get_leaf] at hy; cases hy
    | node l' o' r' =>
      simp only [okT, Bool.and_eq_true] at h
      obtain ⟨h1, h2, h3⟩ := h
      cases i with
      | zero =>
        rw [T.get_zero] at hg; subst hg
        cases o' with
        | none => cases h1
        | some y => exact ⟨y, T.get_zero .., h1⟩
      | succ k =>
        rw [T.get_succ] at hg ⊢
        split at hg
        · rw [if_pos (by assumption)]; exact ihr h3 hg
        · rw [if_neg (by assumption)]; exact ihl h2 hg
theorem okO_OR {f : AV → AV → Bool} {ρ' : Nat → Int} {R' : Inj} (hf : ∀ x y, f x y = true → ∀ cv, VR ρ R y cv → VR ρ' R' x cv) {o o' : AObj} (h : okO f o o' = true) {l : Loc} {x : Obj} (hx : OR P ρ R o' l x) : OR P ρ' R' o l x := by
  cases o with
  | cells e cs fz =>
    cases o' with
    | cells e' cs' fz' =>
      simp only [okO, Bool.and_eq_true] at h
      obtain ⟨h1, h2, h3⟩ := h
      cases hx with
      | cells _ _ _ _ c el fr hc =>
        refine .cells _ _ _ _ _ _ _ ⟨?_, hc.size, ?_, ?_⟩
        · intro a ha
          subst ha
          simp only at h1
          split at h1
          · rename_i b
            rw [beq_true h1, beq_true h2]; exact hc.elem b rfl
          · cases h1
        · intro i v hv
          obtain ⟨y, hy, hfy⟩ := okT_get h3 hv
          obtain ⟨cv, a, b⟩ := hc.rel i y hy
          exact ⟨cv, a, hf _ _ hfy _ b⟩
        · rw [beq_true h2]; exact hc.free
    | _ => cases h
  | map es c =>
    cases o' with
    | map es' c' =>
      simp only [okO, Bool.and_eq_true] at h
      cases hx with
      | map _ _ _ ces hes => rw [beq_true h.1]; exact .map _ _ _ _ (okEs_ERs hf h.2 hes)
    | _ => cases h
  | _ => cases h
theorem below_get {α : Type} : ∀ {t : T α} {b s : Nat}, below n t b s = true → ∀ {i : Nat} {x : α}, t.get i = some x → b + s * i < n := by
  intro t
  induction t with
  | leaf => intro b s _ i x h; rw [T.get_leaf] at h; cases h
  | node l o r ihl ihr =>
    intro b s h i x hg
    simp only [below, Bool.and_eq_true] at h
    obtain ⟨h1, h2, h3⟩ := h
    cases i with
    | zero => rw [T.get_zero] at hg; subst hg; have := blt_true h1; simpa using this
    | succ k =>
      rw [T.get_succ] at hg
      split at hg
      · rename_i hk
        have := ihr h3 hg
        have e : (s + s) * (k / 2) = s * k := by
          have : k = 2 * (k / 2) := by omega
          calc (s + s) * (k / 2) = s * (2 * (k / 2)) := by rw [← Nat.two_mul, Nat.mul_comm 2 s, Nat.mul_assoc]
            _ = s * k := by rw [← this]
        rw [Nat.mul_succ]; omega
      · rename_i hk
        have := ihl h2 hg
        have e : (s + s) * (k / 2) + s = s * k := by
          have h5 : k = 2 * (k / 2) + 1 := by omega
          calc (s + s) * (k / 2) + s = s * (2 * (k / 2) + 1) := by rw [← Nat.two_mul, Nat.mul_comm 2 s, Nat.mul_assoc, Nat.mul_add, Nat.mul_one]
            _ = s * k := by rw [← h5]
        rw [Nat.mul_succ]; omega
theorem moved_get : ∀ {l : Mv} {h : T AObj} {i : Nat} {o : AObj}, (moved h l).get i = some o → h.get (Mv.at l i) = some o := by
  intro l
  induction l with
  | nil => intro h i o hg; exact hg
  | cons x l ih =>
    obtain ⟨j, k⟩ := x
    intro h i o hg
    simp only [moved] at hg
    cases hk : h.get k with
    | none => rw [hk] at hg; simp only [T.get_leaf] at hg; cases hg
    | some p =>
      rw [hk] at hg
      simp only [T.get_set] at hg
      simp only [Mv.at]
      by_cases e : i = j
      · subst e
        rw [if_pos rfl] at hg
        rw [show Nat.beq i i = true from Nat.beq_refl i]
        simp only; rw [hk]; exact hg
      · rw [if_neg e] at hg
        cases hb : Nat.beq i j with
        | true => exact absurd (beq_true hb) e
        | false => simp only; exact ih hg
theorem hasKey_iff : ∀ {l : Mv} {k : Nat}, hasKey l k = true → ∃ v, (k, v) ∈ l ∧ Mv.at l k = v := by
  intro l
  induction l with
  | nil => intro k h; cases h
  | cons x l ih =>
    obtain ⟨j, v⟩ := x
    intro k h
    simp only [hasKey] at h
    simp only [Mv.at]
    cases hb : Nat.beq k j with
    | true => exact ⟨v, by rw [beq_true hb]; exact List.mem_cons_self, rfl⟩
    | false =>
      rw [hb] at h
      obtain ⟨u, h1, h2⟩ := ih h
      exact ⟨u, List.mem_cons_of_mem _ h1, h2⟩
theorem hasVal_of_mem : ∀ {l : Mv} {j k : Nat}, (j, k) ∈ l → hasVal l k = true := by
  intro l
  induction l with
  | nil => intro j k h; cases h
  | cons x l ih =>
    obtain ⟨a, b⟩ := x
    intro j k h
    simp only [hasVal]
    cases hb : Nat.beq k b with
    | true => rfl
    | false =>
      rcases List.mem_cons.1 h with e | h
      · exact absurd (by cases e; rfl) (beq_false' hb)
      · exact ih h
theorem nodupV_inj : ∀ {l : Mv}, nodupV l = true → ∀ {i j k : Nat}, (i, k) ∈ l → (j, k) ∈ l → i = j := by
  intro l
  induction l with
  | nil => intro _ i j k h; cases h
  | cons x l ih =>
    obtain ⟨a, b⟩ := x
    intro h i j k hi hj
    simp only [nodupV, Bool.and_eq_true, Bool.not_eq_true'] at h
    rcases List.mem_cons.1 hi with e | hi' <;> rcases List.mem_cons.1 hj with e' | hj'
    · cases e; cases e'; rfl
    · cases e; rw [hasVal_of_mem hj'] at h; cases h.1
    · cases e'; rw [hasVal_of_mem hi'] at h; cases h.1
    · exact ih h.2 hi' hj'
theorem at_or : ∀ (l : Mv) (i : Nat), (hasKey l i = true ∧ (i, Mv.at l i) ∈ l) ∨ (hasKey l i = false ∧ Mv.at l i = i) := by
  intro l
  induction l with
  | nil => intro i; exact .inr ⟨rfl, rfl⟩
  | cons x l ih =>
    obtain ⟨a, b⟩ := x
    intro i
    simp only [hasKey, Mv.at]
    cases hb : Nat.beq i a with
    | true => exact .inl ⟨rfl, by rw [beq_true hb]; exact List.mem_cons_self⟩
    | false =>
      rcases ih i with ⟨h1, h2⟩ | ⟨h1, h2⟩
      · exact .inl ⟨h1, List.mem_cons_of_mem _ h2⟩
      · exact .inr ⟨h1, h2⟩
theorem okMv_mem {h' : T AObj} : ∀ {l : Mv}, okMv μ h' n l = true → ∀ {j k : Nat}, (j, k) ∈ l → 100 ≤ j ∧ 100 ≤ k ∧ (hasKey μ k = true ∨ h'.get k = none) := by
  intro l
  induction l with
  | nil => intro _ j k h; cases h
  | cons x l ih =>
    obtain ⟨a, b⟩ := x
    intro h j k hj
    simp only [okMv, Bool.and_eq_true, Bool.or_eq_true] at h
    rcases List.mem_cons.1 hj with e | hj
    · cases e
      refine ⟨ble_true h.1, ble_true h.2.1, h.2.2.1.imp id fun hn => ?_⟩
      unfold noneAt at hn
      split at hn
      · assumption
      · cases hn
    · exact ih h.2.2.2 hj
theorem canon {h h' : T AObj} (hc : canonOK μ σ n h' h = true) (iv : Inv P ρ R h w) (gl : Glob R) {sc : List Bool} {low : Nat} {tr : List (SB × Bool)} :
    InvW P (reρ σ ρ) (reR μ n R) ⟨h', n, low, sc, tr⟩ w ∧ Glob (reR μ n R) ∧ (∀ n', Fresh (reR μ n R) n n') ∧ ∀ id o' l, 100 ≤ id → h'.get id = some o' → reR μ n R id = some l → ∃ id' o, 100 ≤ id' ∧ h.get id' = some o ∧ R id' = some l := by
  simp only [canonOK, Bool.and_eq_true] at hc
  obtain ⟨h100, hnd, hmv, hbl, hok⟩ := hc
  have h100 := ble_true h100
  have src : ∀ {id o'}, h'.get id = some o' → id < n ∧ ∃ o, h.get (μ.at id) = some o ∧ okO (okV μ σ n 20) o' o = true := by
    intro id o' hg
    obtain ⟨o, ho, hok'⟩ := okT_get hok hg
    exact ⟨by simpa using below_get hbl hg, o, moved_get ho, hok'⟩
  refine ⟨⟨⟨fun id o' hg => ?_, fun i j o o' l l' hi hj hl hl' hb => ?_⟩, fun id hid => ?_⟩, fun g hg => ?_, fun n' id h1 _ => ?_, fun id o' l hid hg hl => ?_⟩
  · obtain ⟨hn, o, ho, hk⟩ := src hg
    obtain ⟨l, x, hl, hx, hor⟩ := iv.live _ _ ho
    exact ⟨l, x, by simp only [reR, if_pos hn]; exact hl, hx, okO_OR (okV_VR 20) hk hor⟩
  · obtain ⟨hn1, o1, ho1, _⟩ := src hi
    obtain ⟨hn2, o2, ho2, _⟩ := src hj
    simp only [reR, if_pos hn1, if_pos hn2] at hl hl'
    have e := iv.inj _ _ _ _ _ _ ho1 ho2 hl hl' hb
    rcases at_or μ i with ⟨k1, m1⟩ | ⟨k1, m1⟩ <;> rcases at_or μ j with ⟨k2, m2⟩ | ⟨k2, m2⟩
    · rw [e] at m1; exact nodupV_inj hnd m1 m2
    · exfalso
      rw [m2] at e
      rw [e] at m1
      rcases (okMv_mem hmv m1).2.2 with h3 | h3
      · rw [k2] at h3; cases h3
      · rw [hj] at h3; cases h3
    · exfalso
      rw [m1] at e
      rw [← e] at m2
      rcases (okMv_mem hmv m2).2.2 with h3 | h3
      · rw [k1] at h3; cases h3
      · rw [hi] at h3; cases h3
    · rw [m1, m2] at e; exact e
  · cases hg : h'.get id with
    | none => rfl
    | some o => have := (src hg).1; exact absurd hid (by simp only; omega)
  · obtain ⟨r, hr⟩ := gl g hg
    refine ⟨r, ?_⟩
    simp only [reR]
    rw [if_pos (by omega)]
    rcases at_or μ g with ⟨k1, m1⟩ | ⟨k1, m1⟩
    · have := (okMv_mem hmv m1).1; omega
    · rw [m1]; exact hr
  · simp only [reR]; rw [if_neg (by omega)]
  · obtain ⟨hn, o, ho, _⟩ := src hg
    simp only [reR, if_pos hn] at hl
    refine ⟨_, o, ?_, ho, hl⟩
    rcases at_or μ id with ⟨k1, m1⟩ | ⟨k1, m1⟩
    · exact (okMv_mem hmv m1).2.1
    · rw [m1]; exact hid
theorem allT_get {α : Type} {f : α → Bool} : ∀ {t : T α}, allT f t = true → ∀ {i : Nat} {x : α}, t.get i = some x → f x = true := by
  intro t
  induction t with
  | leaf => intro _ i x h; rw [T.get_leaf] at h; cases h
  | node l o r ihl ihr =>
    intro h i x hg
    simp only [allT, Bool.and_eq_true] at h
    cases i with
    | zero => rw [T.get_zero] at hg; subst hg; exact h.1
    | succ k =>
      rw [T.get_succ] at hg
      split at hg
      · exact ihr h.2.2 hg
      · exact ihl h.2.1 hg
theorem okTm_get {f : AV → AV → Bool} : ∀ {t t' : T AV}, okTm f t t' = true → ∀ (i : Nat),
    ((t.get i = none ∨ t.get i = some .any) ∧ (∀ y, t'.get i = some y → notAgg y = true ∨ f .any y = true)) ∨ ∃ x y, t.get i = some x ∧ t'.get i = some y ∧ f x y = true := by
  intro t
  induction t with
  | leaf => intro t' h i; exact .inl ⟨.inl (T.get_leaf _), fun y hy => .inl (allT_get h hy)⟩
  | node l o r ihl ihr =>
    intro t' h i
    cases t' with
    | leaf =>
      simp only [okTm, Bool.and_eq_true] at h
      obtain ⟨h1, h2, h3⟩ := h
      refine .inl ⟨?_, fun y hy => by rw [T.get_leaf] at hy; cases hy⟩
      cases i with
      | zero =>
        rw [T.get_zero]
        cases o with
        | none => exact .inl rfl
        | some x => cases x <;> first | exact .inr rfl | cases h1
      | succ k =>
        rw [T.get_succ]
        split
        · rcases ihr h3 (k / 2) with ⟨a, _⟩ | ⟨x, y, _, hy, _⟩
          · exact a
          · rw [T.get_leaf] at hy; cases hy
        · rcases ihl h2 (k / 2) with ⟨a, _⟩ | ⟨x, y, _, hy, _⟩
          · exact a
          · rw [T.get_leaf] at hy; cases hy
    | node l' o' r' =>
      simp only [okTm, Bool.and_eq_true] at h
      obtain ⟨h1, h2, h3⟩ := h
      cases i with
      | zero =>
        simp only [T.get_zero]
        cases o' with
        | none =>
          refine .inl ⟨?_, fun y hy => by cases hy⟩
          cases o with
          | none => exact .inl rfl
          | some x => cases x <;> first | exact .inr rfl | cases h1
        | some y =>
          cases o with
          | none => exact .inl ⟨.inl rfl, fun z hz => by cases hz; exact .inl h1⟩
          | some x => exact .inr ⟨x, y, rfl, rfl, h1⟩
      | succ k =>
        simp only [T.get_succ]
        split
        · exact ihr h3 _
        · exact ihl h2 _
theorem canonTm {E : T Unit} {N : Nat} {tm tm' : T AV} {tmps : Array Value} (h : okTm (okV μ σ n 20) tm' tm = true) (t : TR ρ R E N tm tmps) : TR (reρ σ ρ) (reR μ n R) E N tm' tmps := by
  refine ⟨t.size, fun i hi => ?_⟩
  have hr := t.rel i hi
  rw [evA_t] at hr ⊢
  have any : ∀ cv, (∀ y, tm.get i = some y → notAgg y = true ∨ okV μ σ n 20 .any y = true) → VR ρ R ((tm.get i).getD .any) cv → VR (reρ σ ρ) (reR μ n R) .any cv := by
    intro cv hy hv
    cases hg : tm.get i with
    | none => rw [hg] at hv; exact .any _ (notAgg_one rfl hv)
    | some y =>
      rw [hg] at hv
      rcases hy y hg with h1 | h1
      · exact .any _ (notAgg_one h1 hv)
      · exact okV_VR 20 _ _ h1 _ hv
  rcases okTm_get h i with ⟨h1, h2⟩ | ⟨x, y, hx, hy, hf⟩
  · have := any _ h2 hr
    rcases h1 with h1 | h1 <;> rw [h1] <;> exact this
  · rw [hx]
    rw [hy] at hr
    exact okV_VR 20 _ _ hf _ hr
end
end Go.Ab

namespace Go.Ab
open Go.Proofs
def FnP (P : Program) (f : Nat) (cf : CFunc) : Prop := ∃ (E : T Unit) (fn : Func), P.funcs[f]? = some fn ∧ (fn.name == "runtime.NumGoroutine") = false ∧ cFunc P E fn = some cf
def FnAll (P : Program) (t : T CFunc) : Prop := ∀ f cf, t.get f = some cf → FnP P f cf
theorem FnAll.leaf (P : Program) : FnAll P .leaf := fun f cf h => by rw [T.get_leaf] at h; cases h
theorem FnAll.set {P : Program} {t : T CFunc} (h : FnAll P t) {f : Nat} {fn : Func} {E : T Unit} {cf : CFunc} (h1 : P.funcs[f]? = some fn) (h2 : (fn.name == "runtime.NumGoroutine") = false) (h3 : cFunc P E fn = some cf) : FnAll P (t.set f cf) := by
  intro g cg hg
  rw [T.get_set] at hg
  split at hg
  · rename_i e; subst e; cases hg; exact ⟨E, fn, h1, h2, h3⟩
  · exact h g cg hg
theorem k4 : cFunc Tryz.prog Lit.e4 Tryz.f4 = some Lit.c4 := by kernel_rfl
theorem k11 : cFunc Tryz.prog Lit.e11 Tryz.f11 = some Lit.c11 := by kernel_rfl
theorem k12 : cFunc Tryz.prog Lit.e12 Tryz.f12 = some Lit.c12 := by kernel_rfl
theorem k13 : cFunc Tryz.prog Lit.e13 Tryz.f13 = some Lit.c13 := by kernel_rfl
theorem k16 : cFunc Tryz.prog Lit.e16 Tryz.f16 = some Lit.c16 := by kernel_rfl
theorem k17 : cFunc Tryz.prog Lit.e17 Tryz.f17 = some Lit.c17 := by kernel_rfl
theorem k18 : cFunc Tryz.prog Lit.e18 Tryz.f18 = some Lit.c18 := by kernel_rfl
theorem k19 : cFunc Tryz.prog Lit.e19 Tryz.f19 = some Lit.c19 := by kernel_rfl
theorem k20 : cFunc Tryz.prog Lit.e20 Tryz.f20 = some Lit.c20 := by kernel_rfl
theorem k21 : cFunc Tryz.prog Lit.e21 Tryz.f21 = some Lit.c21 := by kernel_rfl
theorem k27 : cFunc Tryz.prog Lit.e27 Tryz.f27 = some Lit.c27 := by kernel_rfl
theorem k30 : cFunc Tryz.prog Lit.e30 Tryz.f30 = some Lit.c30 := by kernel_rfl
theorem k31 : cFunc Tryz.prog Lit.e31 Tryz.f31 = some Lit.c31 := by kernel_rfl
theorem k33 : cFunc Tryz.prog Lit.e33 Tryz.f33 = some Lit.c33 := by kernel_rfl
theorem k34 : cFunc Tryz.prog Lit.e34 Tryz.f34 = some Lit.c34 := by kernel_rfl
theorem k35 : cFunc Tryz.prog Lit.e35 Tryz.f35 = some Lit.c35 := by kernel_rfl
theorem k37 : cFunc Tryz.prog Lit.e37 Tryz.f37 = some Lit.c37 := by kernel_rfl
theorem k41 : cFunc Tryz.prog Lit.e41 Tryz.f41 = some Lit.c41 := by kernel_rfl
theorem k42 : cFunc Tryz.prog Lit.e42 Tryz.f42 = some Lit.c42 := by kernel_rfl
theorem k44 : cFunc Tryz.prog Lit.e44 Tryz.f44 = some Lit.c44 := by kernel_rfl
theorem k45 : cFunc Tryz.prog Lit.e45 Tryz.f45 = some Lit.c45 := by kernel_rfl
theorem k46 : cFunc Tryz.prog Lit.e46 Tryz.f46 = some Lit.c46 := by kernel_rfl
theorem k47 : cFunc Tryz.prog Lit.e47 Tryz.f47 = some Lit.c47 := by kernel_rfl
theorem k48 : cFunc Tryz.prog Lit.e48 Tryz.f48 = some Lit.c48 := by kernel_rfl
theorem k49 : cFunc Tryz.prog Lit.e49 Tryz.f49 = some Lit.c49 := by kernel_rfl
theorem k50 : cFunc Tryz.prog Lit.e50 Tryz.f50 = some Lit.c50 := by kernel_rfl
theorem k51 : cFunc Tryz.prog Lit.e51 Tryz.f51 = some Lit.c51 := by kernel_rfl
theorem k54 : cFunc Tryz.prog Lit.e54 Tryz.f54 = some Lit.c54 := by kernel_rfl
theorem k56 : cFunc Tryz.prog Lit.e56 Tryz.f56 = some Lit.c56 := by kernel_rfl
theorem k57 : cFunc Tryz.prog Lit.e57 Tryz.f57 = some Lit.c57 := by kernel_rfl
theorem k58 : cFunc Tryz.prog Lit.e58 Tryz.f58 = some Lit.c58 := by kernel_rfl
theorem k59 : cFunc Tryz.prog Lit.e59 Tryz.f59 = some Lit.c59 := by kernel_rfl
theorem k60 : cFunc Tryz.prog Lit.e60 Tryz.f60 = some Lit.c60 := by kernel_rfl
theorem k61 : cFunc Tryz.prog Lit.e61 Tryz.f61 = some Lit.c61 := by kernel_rfl
theorem k62 : cFunc Tryz.prog Lit.e62 Tryz.f62 = some Lit.c62 := by kernel_rfl
theorem k63 : cFunc Tryz.prog Lit.e63 Tryz.f63 = some Lit.c63 := by kernel_rfl
theorem k64 : cFunc Tryz.prog Lit.e64 Tryz.f64 = some Lit.c64 := by kernel_rfl
theorem k65 : cFunc Tryz.prog Lit.e65 Tryz.f65 = some Lit.c65 := by kernel_rfl
theorem k66 : cFunc Tryz.prog Lit.e66 Tryz.f66 = some Lit.c66 := by kernel_rfl
theorem k67 : cFunc Tryz.prog Lit.e67 Tryz.f67 = some Lit.c67 := by kernel_rfl
theorem k69 : cFunc Tryz.prog Lit.e69 Tryz.f69 = some Lit.c69 := by kernel_rfl
theorem k70 : cFunc Tryz.prog Lit.e70 Tryz.f70 = some Lit.c70 := by kernel_rfl
theorem k71 : cFunc Tryz.prog Lit.e71 Tryz.f71 = some Lit.c71 := by kernel_rfl
theorem k72 : cFunc Tryz.prog Lit.e72 Tryz.f72 = some Lit.c72 := by kernel_rfl
theorem k73 : cFunc Tryz.prog Lit.e73 Tryz.f73 = some Lit.c73 := by kernel_rfl
theorem k74 : cFunc Tryz.prog Lit.e74 Tryz.f74 = some Lit.c74 := by kernel_rfl
theorem k76 : cFunc Tryz.prog Lit.e76 Tryz.f76 = some Lit.c76 := by kernel_rfl
theorem k85 : cFunc Tryz.prog Lit.e85 Tryz.f85 = some Lit.c85 := by kernel_rfl
theorem k86 : cFunc Tryz.prog Lit.e86 Tryz.f86 = some Lit.c86 := by kernel_rfl
theorem k87 : cFunc Tryz.prog Lit.e87 Tryz.f87 = some Lit.c87 := by kernel_rfl
theorem k88 : cFunc Tryz.prog Lit.e88 Tryz.f88 = some Lit.c88 := by kernel_rfl
theorem k89 : cFunc Tryz.prog Lit.e89 Tryz.f89 = some Lit.c89 := by kernel_rfl
theorem k90 : cFunc Tryz.prog Lit.e90 Tryz.f90 = some Lit.c90 := by kernel_rfl
theorem k91 : cFunc Tryz.prog Lit.e91 Tryz.f91 = some Lit.c91 := by kernel_rfl
theorem k92 : cFunc Tryz.prog Lit.e92 Tryz.f92 = some Lit.c92 := by kernel_rfl
theorem k93 : cFunc Tryz.prog Lit.e93 Tryz.f93 = some Lit.c93 := by kernel_rfl
theorem k95 : cFunc Tryz.prog Lit.e95 Tryz.f95 = some Lit.c95 := by kernel_rfl
theorem k96 : cFunc Tryz.prog Lit.e96 Tryz.f96 = some Lit.c96 := by kernel_rfl
theorem k97 : cFunc Tryz.prog Lit.e97 Tryz.f97 = some Lit.c97 := by kernel_rfl
theorem k98 : cFunc Tryz.prog Lit.e98 Tryz.f98 = some Lit.c98 := by kernel_rfl
theorem k99 : cFunc Tryz.prog Lit.e99 Tryz.f99 = some Lit.c99 := by kernel_rfl
theorem k100 : cFunc Tryz.prog Lit.e100 Tryz.f100 = some Lit.c100 := by kernel_rfl
theorem k101 : cFunc Tryz.prog Lit.e101 Tryz.f101 = some Lit.c101 := by kernel_rfl
theorem k105 : cFunc Tryz.prog Lit.e105 Tryz.f105 = some Lit.c105 := by kernel_rfl
theorem k106 : cFunc Tryz.prog Lit.e106 Tryz.f106 = some Lit.c106 := by kernel_rfl
theorem k107 : cFunc Tryz.prog Lit.e107 Tryz.f107 = some Lit.c107 := by kernel_rfl
theorem k108 : cFunc Tryz.prog Lit.e108 Tryz.f108 = some Lit.c108 := by kernel_rfl
theorem k109 : cFunc Tryz.prog Lit.e109 Tryz.f109 = some Lit.c109 := by kernel_rfl
theorem k110 : cFunc Tryz.prog Lit.e110 Tryz.f110 = some Lit.c110 := by kernel_rfl
theorem k111 : cFunc Tryz.prog Lit.e111 Tryz.f111 = some Lit.c111 := by kernel_rfl
theorem k112 : cFunc Tryz.prog Lit.e112 Tryz.f112 = some Lit.c112 := by kernel_rfl
theorem k113 : cFunc Tryz.prog Lit.e113 Tryz.f113 = some Lit.c113 := by kernel_rfl
theorem k114 : cFunc Tryz.prog Lit.e114 Tryz.f114 = some Lit.c114 := by kernel_rfl
theorem k115 : cFunc Tryz.prog Lit.e115 Tryz.f115 = some Lit.c115 := by kernel_rfl
theorem k117 : cFunc Tryz.prog Lit.e117 Tryz.f117 = some Lit.c117 := by kernel_rfl
theorem k121 : cFunc Tryz.prog Lit.e121 Tryz.f121 = some Lit.c121 := by kernel_rfl
theorem k122 : cFunc Tryz.prog Lit.e122 Tryz.f122 = some Lit.c122 := by kernel_rfl
theorem k123 : cFunc Tryz.prog Lit.e123 Tryz.f123 = some Lit.c123 := by kernel_rfl
theorem k124 : cFunc Tryz.prog Lit.e124 Tryz.f124 = some Lit.c124 := by kernel_rfl
theorem k125 : cFunc Tryz.prog Lit.e125 Tryz.f125 = some Lit.c125 := by kernel_rfl
theorem k126 : cFunc Tryz.prog Lit.e126 Tryz.f126 = some Lit.c126 := by kernel_rfl
theorem k127 : cFunc Tryz.prog Lit.e127 Tryz.f127 = some Lit.c127 := by kernel_rfl
theorem k128 : cFunc Tryz.prog Lit.e128 Tryz.f128 = some Lit.c128 := by kernel_rfl
theorem k129 : cFunc Tryz.prog Lit.e129 Tryz.f129 = some Lit.c129 := by kernel_rfl
theorem k130 : cFunc Tryz.prog Lit.e130 Tryz.f130 = some Lit.c130 := by kernel_rfl
theorem k132 : cFunc Tryz.prog Lit.e132 Tryz.f132 = some Lit.c132 := by kernel_rfl
theorem k133 : cFunc Tryz.prog Lit.e133 Tryz.f133 = some Lit.c133 := by kernel_rfl
theorem k134 : cFunc Tryz.prog Lit.e134 Tryz.f134 = some Lit.c134 := by kernel_rfl
theorem k135 : cFunc Tryz.prog Lit.e135 Tryz.f135 = some Lit.c135 := by kernel_rfl
theorem k136 : cFunc Tryz.prog Lit.e136 Tryz.f136 = some Lit.c136 := by kernel_rfl
theorem k137 : cFunc Tryz.prog Lit.e137 Tryz.f137 = some Lit.c137 := by kernel_rfl
theorem k138 : cFunc Tryz.prog Lit.e138 Tryz.f138 = some Lit.c138 := by kernel_rfl
theorem k139 : cFunc Tryz.prog Lit.e139 Tryz.f139 = some Lit.c139 := by kernel_rfl
theorem k140 : cFunc Tryz.prog Lit.e140 Tryz.f140 = some Lit.c140 := by kernel_rfl
theorem k141 : cFunc Tryz.prog Lit.e141 Tryz.f141 = some Lit.c141 := by kernel_rfl
theorem k149 : cFunc Tryz.prog Lit.e149 Tryz.f149 = some Lit.c149 := by kernel_rfl
theorem k152 : cFunc Tryz.prog Lit.e152 Tryz.f152 = some Lit.c152 := by kernel_rfl
theorem k154 : cFunc Tryz.prog Lit.e154 Tryz.f154 = some Lit.c154 := by kernel_rfl
theorem k155 : cFunc Tryz.prog Lit.e155 Tryz.f155 = some Lit.c155 := by kernel_rfl
theorem k156 : cFunc Tryz.prog Lit.e156 Tryz.f156 = some Lit.c156 := by kernel_rfl
theorem k157 : cFunc Tryz.prog Lit.e157 Tryz.f157 = some Lit.c157 := by kernel_rfl
theorem k158 : cFunc Tryz.prog Lit.e158 Tryz.f158 = some Lit.c158 := by kernel_rfl
theorem k159 : cFunc Tryz.prog Lit.e159 Tryz.f159 = some Lit.c159 := by kernel_rfl
theorem k160 : cFunc Tryz.prog Lit.e160 Tryz.f160 = some Lit.c160 := by kernel_rfl
theorem k161 : cFunc Tryz.prog Lit.e161 Tryz.f161 = some Lit.c161 := by kernel_rfl
theorem k162 : cFunc Tryz.prog Lit.e162 Tryz.f162 = some Lit.c162 := by kernel_rfl
theorem k163 : cFunc Tryz.prog Lit.e163 Tryz.f163 = some Lit.c163 := by kernel_rfl
theorem k164 : cFunc Tryz.prog Lit.e164 Tryz.f164 = some Lit.c164 := by kernel_rfl
theorem k165 : cFunc Tryz.prog Lit.e165 Tryz.f165 = some Lit.c165 := by kernel_rfl
theorem k166 : cFunc Tryz.prog Lit.e166 Tryz.f166 = some Lit.c166 := by kernel_rfl
theorem k167 : cFunc Tryz.prog Lit.e167 Tryz.f167 = some Lit.c167 := by kernel_rfl
theorem k168 : cFunc Tryz.prog Lit.e168 Tryz.f168 = some Lit.c168 := by kernel_rfl
theorem k169 : cFunc Tryz.prog Lit.e169 Tryz.f169 = some Lit.c169 := by kernel_rfl
theorem k170 : cFunc Tryz.prog Lit.e170 Tryz.f170 = some Lit.c170 := by kernel_rfl
theorem k173 : cFunc Tryz.prog Lit.e173 Tryz.f173 = some Lit.c173 := by kernel_rfl
theorem k175 : cFunc Tryz.prog Lit.e175 Tryz.f175 = some Lit.c175 := by kernel_rfl
theorem k176 : cFunc Tryz.prog Lit.e176 Tryz.f176 = some Lit.c176 := by kernel_rfl
theorem k177 : cFunc Tryz.prog Lit.e177 Tryz.f177 = some Lit.c177 := by kernel_rfl
theorem k178 : cFunc Tryz.prog Lit.e178 Tryz.f178 = some Lit.c178 := by kernel_rfl
theorem k181 : cFunc Tryz.prog Lit.e181 Tryz.f181 = some Lit.c181 := by kernel_rfl
theorem k184 : cFunc Tryz.prog Lit.e184 Tryz.f184 = some Lit.c184 := by kernel_rfl
theorem k188 : cFunc Tryz.prog Lit.e188 Tryz.f188 = some Lit.c188 := by kernel_rfl
theorem k189 : cFunc Tryz.prog Lit.e189 Tryz.f189 = some Lit.c189 := by kernel_rfl
theorem k190 : cFunc Tryz.prog Lit.e190 Tryz.f190 = some Lit.c190 := by kernel_rfl
theorem k191 : cFunc Tryz.prog Lit.e191 Tryz.f191 = some Lit.c191 := by kernel_rfl
theorem k192 : cFunc Tryz.prog Lit.e192 Tryz.f192 = some Lit.c192 := by kernel_rfl
theorem k193 : cFunc Tryz.prog Lit.e193 Tryz.f193 = some Lit.c193 := by kernel_rfl
theorem k194 : cFunc Tryz.prog Lit.e194 Tryz.f194 = some Lit.c194 := by kernel_rfl
theorem k195 : cFunc Tryz.prog Lit.e195 Tryz.f195 = some Lit.c195 := by kernel_rfl
theorem k196 : cFunc Tryz.prog Lit.e196 Tryz.f196 = some Lit.c196 := by kernel_rfl
theorem k197 : cFunc Tryz.prog Lit.e197 Tryz.f197 = some Lit.c197 := by kernel_rfl
theorem k198 : cFunc Tryz.prog Lit.e198 Tryz.f198 = some Lit.c198 := by kernel_rfl
theorem k199 : cFunc Tryz.prog Lit.e199 Tryz.f199 = some Lit.c199 := by kernel_rfl
theorem k202 : cFunc Tryz.prog Lit.e202 Tryz.f202 = some Lit.c202 := by kernel_rfl
theorem k203 : cFunc Tryz.prog Lit.e203 Tryz.f203 = some Lit.c203 := by kernel_rfl
theorem k204 : cFunc Tryz.prog Lit.e204 Tryz.f204 = some Lit.c204 := by kernel_rfl
theorem k205 : cFunc Tryz.prog Lit.e205 Tryz.f205 = some Lit.c205 := by kernel_rfl
theorem k207 : cFunc Tryz.prog Lit.e207 Tryz.f207 = some Lit.c207 := by kernel_rfl
theorem k208 : cFunc Tryz.prog Lit.e208 Tryz.f208 = some Lit.c208 := by kernel_rfl
theorem k209 : cFunc Tryz.prog Lit.e209 Tryz.f209 = some Lit.c209 := by kernel_rfl
theorem k210 : cFunc Tryz.prog Lit.e210 Tryz.f210 = some Lit.c210 := by kernel_rfl
theorem k211 : cFunc Tryz.prog Lit.e211 Tryz.f211 = some Lit.c211 := by kernel_rfl
theorem k212 : cFunc Tryz.prog Lit.e212 Tryz.f212 = some Lit.c212 := by kernel_rfl
theorem k213 : cFunc Tryz.prog Lit.e213 Tryz.f213 = some Lit.c213 := by kernel_rfl
theorem k214 : cFunc Tryz.prog Lit.e214 Tryz.f214 = some Lit.c214 := by kernel_rfl
theorem k215 : cFunc Tryz.prog Lit.e215 Tryz.f215 = some Lit.c215 := by kernel_rfl
theorem k219 : cFunc Tryz.prog Lit.e219 Tryz.f219 = some Lit.c219 := by kernel_rfl
theorem k221 : cFunc Tryz.prog Lit.e221 Tryz.f221 = some Lit.c221 := by kernel_rfl
theorem k222 : cFunc Tryz.prog Lit.e222 Tryz.f222 = some Lit.c222 := by kernel_rfl
theorem k223 : cFunc Tryz.prog Lit.e223 Tryz.f223 = some Lit.c223 := by kernel_rfl
theorem k224 : cFunc Tryz.prog Lit.e224 Tryz.f224 = some Lit.c224 := by kernel_rfl
theorem k228 : cFunc Tryz.prog Lit.e228 Tryz.f228 = some Lit.c228 := by kernel_rfl
theorem k231 : cFunc Tryz.prog Lit.e231 Tryz.f231 = some Lit.c231 := by kernel_rfl
theorem k232 : cFunc Tryz.prog Lit.e232 Tryz.f232 = some Lit.c232 := by kernel_rfl
theorem k233 : cFunc Tryz.prog Lit.e233 Tryz.f233 = some Lit.c233 := by kernel_rfl
theorem k234 : cFunc Tryz.prog Lit.e234 Tryz.f234 = some Lit.c234 := by kernel_rfl
theorem k235 : cFunc Tryz.prog Lit.e235 Tryz.f235 = some Lit.c235 := by kernel_rfl
theorem k236 : cFunc Tryz.prog Lit.e236 Tryz.f236 = some Lit.c236 := by kernel_rfl
theorem k238 : cFunc Tryz.prog Lit.e238 Tryz.f238 = some Lit.c238 := by kernel_rfl
theorem k239 : cFunc Tryz.prog Lit.e239 Tryz.f239 = some Lit.c239 := by kernel_rfl
theorem k240 : cFunc Tryz.prog Lit.e240 Tryz.f240 = some Lit.c240 := by kernel_rfl
theorem k244 : cFunc Tryz.prog Lit.e244 Tryz.f244 = some Lit.c244 := by kernel_rfl
theorem k245 : cFunc Tryz.prog Lit.e245 Tryz.f245 = some Lit.c245 := by kernel_rfl
theorem k246 : cFunc Tryz.prog Lit.e246 Tryz.f246 = some Lit.c246 := by kernel_rfl
theorem k247 : cFunc Tryz.prog Lit.e247 Tryz.f247 = some Lit.c247 := by kernel_rfl
theorem k252 : cFunc Tryz.prog Lit.e252 Tryz.f252 = some Lit.c252 := by kernel_rfl
theorem k254 : cFunc Tryz.prog Lit.e254 Tryz.f254 = some Lit.c254 := by kernel_rfl
theorem k256 : cFunc Tryz.prog Lit.e256 Tryz.f256 = some Lit.c256 := by kernel_rfl
theorem k257 : cFunc Tryz.prog Lit.e257 Tryz.f257 = some Lit.c257 := by kernel_rfl
theorem k258 : cFunc Tryz.prog Lit.e258 Tryz.f258 = some Lit.c258 := by kernel_rfl
theorem k269 : cFunc Tryz.prog Lit.e269 Tryz.f269 = some Lit.c269 := by kernel_rfl
theorem k270 : cFunc Tryz.prog Lit.e270 Tryz.f270 = some Lit.c270 := by kernel_rfl
theorem k271 : cFunc Tryz.prog Lit.e271 Tryz.f271 = some Lit.c271 := by kernel_rfl
theorem k275 : cFunc Tryz.prog Lit.e275 Tryz.f275 = some Lit.c275 := by kernel_rfl
theorem k276 : cFunc Tryz.prog Lit.e276 Tryz.f276 = some Lit.c276 := by kernel_rfl
theorem k277 : cFunc Tryz.prog Lit.e277 Tryz.f277 = some Lit.c277 := by kernel_rfl
theorem k278 : cFunc Tryz.prog Lit.e278 Tryz.f278 = some Lit.c278 := by kernel_rfl
theorem k281 : cFunc Tryz.prog Lit.e281 Tryz.f281 = some Lit.c281 := by kernel_rfl
theorem k282 : cFunc Tryz.prog Lit.e282 Tryz.f282 = some Lit.c282 := by kernel_rfl
theorem k283 : cFunc Tryz.prog Lit.e283 Tryz.f283 = some Lit.c283 := by kernel_rfl
theorem k284 : cFunc Tryz.prog Lit.e284 Tryz.f284 = some Lit.c284 := by kernel_rfl
theorem k286 : cFunc Tryz.prog Lit.e286 Tryz.f286 = some Lit.c286 := by kernel_rfl
theorem k287 : cFunc Tryz.prog Lit.e287 Tryz.f287 = some Lit.c287 := by kernel_rfl
theorem k288 : cFunc Tryz.prog Lit.e288 Tryz.f288 = some Lit.c288 := by kernel_rfl
theorem k289 : cFunc Tryz.prog Lit.e289 Tryz.f289 = some Lit.c289 := by kernel_rfl
theorem k290 : cFunc Tryz.prog Lit.e290 Tryz.f290 = some Lit.c290 := by kernel_rfl
theorem k291 : cFunc Tryz.prog Lit.e291 Tryz.f291 = some Lit.c291 := by kernel_rfl
theorem k292 : cFunc Tryz.prog Lit.e292 Tryz.f292 = some Lit.c292 := by kernel_rfl
theorem k294 : cFunc Tryz.prog Lit.e294 Tryz.f294 = some Lit.c294 := by kernel_rfl
theorem k295 : cFunc Tryz.prog Lit.e295 Tryz.f295 = some Lit.c295 := by kernel_rfl
theorem k297 : cFunc Tryz.prog Lit.e297 Tryz.f297 = some Lit.c297 := by kernel_rfl
theorem k298 : cFunc Tryz.prog Lit.e298 Tryz.f298 = some Lit.c298 := by kernel_rfl
theorem k299 : cFunc Tryz.prog Lit.e299 Tryz.f299 = some Lit.c299 := by kernel_rfl
theorem k300 : cFunc Tryz.prog Lit.e300 Tryz.f300 = some Lit.c300 := by kernel_rfl
theorem k302 : cFunc Tryz.prog Lit.e302 Tryz.f302 = some Lit.c302 := by kernel_rfl
theorem k303 : cFunc Tryz.prog Lit.e303 Tryz.f303 = some Lit.c303 := by kernel_rfl
theorem k305 : cFunc Tryz.prog Lit.e305 Tryz.f305 = some Lit.c305 := by kernel_rfl
theorem k312 : cFunc Tryz.prog Lit.e312 Tryz.f312 = some Lit.c312 := by kernel_rfl
theorem k313 : cFunc Tryz.prog Lit.e313 Tryz.f313 = some Lit.c313 := by kernel_rfl
theorem k315 : cFunc Tryz.prog Lit.e315 Tryz.f315 = some Lit.c315 := by kernel_rfl
theorem k316 : cFunc Tryz.prog Lit.e316 Tryz.f316 = some Lit.c316 := by kernel_rfl
theorem k317 : cFunc Tryz.prog Lit.e317 Tryz.f317 = some Lit.c317 := by kernel_rfl
theorem k326 : cFunc Tryz.prog Lit.e326 Tryz.f326 = some Lit.c326 := by kernel_rfl
theorem k335 : cFunc Tryz.prog Lit.e335 Tryz.f335 = some Lit.c335 := by kernel_rfl
theorem k337 : cFunc Tryz.prog Lit.e337 Tryz.f337 = some Lit.c337 := by kernel_rfl
theorem k338 : cFunc Tryz.prog Lit.e338 Tryz.f338 = some Lit.c338 := by kernel_rfl
theorem k343 : cFunc Tryz.prog Lit.e343 Tryz.f343 = some Lit.c343 := by kernel_rfl
theorem k344 : cFunc Tryz.prog Lit.e344 Tryz.f344 = some Lit.c344 := by kernel_rfl
theorem k345 : cFunc Tryz.prog Lit.e345 Tryz.f345 = some Lit.c345 := by kernel_rfl
theorem k346 : cFunc Tryz.prog Lit.e346 Tryz.f346 = some Lit.c346 := by kernel_rfl
theorem k348 : cFunc Tryz.prog Lit.e348 Tryz.f348 = some Lit.c348 := by kernel_rfl
theorem k349 : cFunc Tryz.prog Lit.e349 Tryz.f349 = some Lit.c349 := by kernel_rfl
theorem k350 : cFunc Tryz.prog Lit.e350 Tryz.f350 = some Lit.c350 := by kernel_rfl
theorem k353 : cFunc Tryz.prog Lit.e353 Tryz.f353 = some Lit.c353 := by kernel_rfl
theorem k371 : cFunc Tryz.prog Lit.e371 Tryz.f371 = some Lit.c371 := by kernel_rfl
theorem k372 : cFunc Tryz.prog Lit.e372 Tryz.f372 = some Lit.c372 := by kernel_rfl
theorem k373 : cFunc Tryz.prog Lit.e373 Tryz.f373 = some Lit.c373 := by kernel_rfl
theorem k374 : cFunc Tryz.prog Lit.e374 Tryz.f374 = some Lit.c374 := by kernel_rfl
theorem k378 : cFunc Tryz.prog Lit.e378 Tryz.f378 = some Lit.c378 := by kernel_rfl
theorem k380 : cFunc Tryz.prog Lit.e380 Tryz.f380 = some Lit.c380 := by kernel_rfl
theorem k381 : cFunc Tryz.prog Lit.e381 Tryz.f381 = some Lit.c381 := by kernel_rfl
theorem k382 : cFunc Tryz.prog Lit.e382 Tryz.f382 = some Lit.c382 := by kernel_rfl
theorem k383 : cFunc Tryz.prog Lit.e383 Tryz.f383 = some Lit.c383 := by kernel_rfl
theorem k384 : cFunc Tryz.prog Lit.e384 Tryz.f384 = some Lit.c384 := by kernel_rfl
theorem k385 : cFunc Tryz.prog Lit.e385 Tryz.f385 = some Lit.c385 := by kernel_rfl
theorem k386 : cFunc Tryz.prog Lit.e386 Tryz.f386 = some Lit.c386 := by kernel_rfl
theorem k388 : cFunc Tryz.prog Lit.e388 Tryz.f388 = some Lit.c388 := by kernel_rfl
theorem k390 : cFunc Tryz.prog Lit.e390 Tryz.f390 = some Lit.c390 := by kernel_rfl
theorem k391 : cFunc Tryz.prog Lit.e391 Tryz.f391 = some Lit.c391 := by kernel_rfl
theorem k395 : cFunc Tryz.prog Lit.e395 Tryz.f395 = some Lit.c395 := by kernel_rfl
theorem k408 : cFunc Tryz.prog Lit.e408 Tryz.f408 = some Lit.c408 := by kernel_rfl
theorem k420 : cFunc Tryz.prog Lit.e420 Tryz.f420 = some Lit.c420 := by kernel_rfl
theorem k421 : cFunc Tryz.prog Lit.e421 Tryz.f421 = some Lit.c421 := by kernel_rfl
theorem k422 : cFunc Tryz.prog Lit.e422 Tryz.f422 = some Lit.c422 := by kernel_rfl
theorem k430 : cFunc Tryz.prog Lit.e430 Tryz.f430 = some Lit.c430 := by kernel_rfl
def fnT : T CFunc := (.node (.node (.node (.node (.node (.node (.node (.node .leaf (some Lit.c254) (.node .leaf (some Lit.c382) .leaf)) (some Lit.c126) (.node .leaf (some Lit.c190) .leaf)) (some Lit.c62) (.node (.node .leaf (some Lit.c222) (.node .leaf (some Lit.c350) .leaf)) none (.node .leaf (some Lit.c158) (.node .leaf (some Lit.c286) .leaf)))) (some Lit.c30) (.node (.node (.node .leaf (some Lit.c238) .leaf) (some Lit.c110) (.node (.node .leaf (some Lit.c430) .leaf) none (.node .leaf (some Lit.c302) .leaf))) (some Lit.c46) (.node .leaf none (.node .leaf none (.node .leaf (some Lit.c270) .leaf))))) none (.node (.node (.node (.node .leaf (some Lit.c246) (.node .leaf (some Lit.c374) .leaf)) none .leaf) (some Lit.c54) (.node (.node .leaf (some Lit.c214) .leaf) (some Lit.c86) (.node .leaf none (.node .leaf (some Lit.c278) .leaf)))) none (.node (.node .leaf none (.node (.node .leaf (some Lit.c422) .leaf) (some Lit.c166) (.node .leaf (some Lit.c294) .leaf))) none (.node (.node .leaf (some Lit.c198) (.node .leaf (some Lit.c326) .leaf)) (some Lit.c70) (.node (.node .leaf (some Lit.c390) .leaf) (some Lit.c134) .leaf))))) none (.node (.node (.node (.node (.node .leaf none (.node .leaf (some Lit.c378) .leaf)) (some Lit.c122) .leaf) (some Lit.c58) (.node (.node .leaf none (.node .leaf (some Lit.c346) .leaf)) (some Lit.c90) (.node .leaf (some Lit.c154) (.node .leaf (some Lit.c282) .leaf)))) none (.node (.node (.node .leaf (some Lit.c234) .leaf) (some Lit.c106) (.node .leaf (some Lit.c170) (.node .leaf (some Lit.c298) .leaf))) (some Lit.c42) (.node (.node .leaf (some Lit.c202) .leaf) (some Lit.c74) (.node .leaf (some Lit.c138) .leaf)))) none (.node (.node (.node .leaf (some Lit.c114) (.node .leaf (some Lit.c178) .leaf)) (some Lit.c50) (.node (.node .leaf (some Lit.c210) (.node .leaf (some Lit.c338) .leaf)) none .leaf)) (some Lit.c18) (.node (.node .leaf (some Lit.c98) (.node .leaf (some Lit.c162) (.node .leaf (some Lit.c290) .leaf))) (some Lit.c34) (.node (.node .leaf (some Lit.c194) .leaf) (some Lit.c66) (.node (.node .leaf (some Lit.c386) .leaf) (some Lit.c130) (.node .leaf (some Lit.c258) .leaf))))))) none (.node (.node (.node (.node (.node (.node .leaf (some Lit.c252) (.node .leaf (some Lit.c380) .leaf)) (some Lit.c124) (.node .leaf (some Lit.c188) (.node .leaf (some Lit.c316) .leaf))) (some Lit.c60) (.node (.node .leaf none (.node .leaf (some Lit.c348) .leaf)) (some Lit.c92) (.node .leaf (some Lit.c156) (.node .leaf (some Lit.c284) .leaf)))) none (.node (.node (.node .leaf (some Lit.c236) .leaf) (some Lit.c108) (.node .leaf none (.node .leaf (some Lit.c300) .leaf))) (some Lit.c44) (.node (.node .leaf (some Lit.c204) .leaf) (some Lit.c76) (.node .leaf (some Lit.c140) .leaf)))) (some Lit.c12) (.node (.node (.node (.node .leaf (some Lit.c244) (.node .leaf (some Lit.c372) .leaf)) none .leaf) none (.node (.node .leaf (some Lit.c212) .leaf) none (.node .leaf none (.node .leaf (some Lit.c276) .leaf)))) (some Lit.c20) (.node (.node (.node .leaf (some Lit.c228) .leaf) (some Lit.c100) (.node (.node .leaf (some Lit.c420) .leaf) (some Lit.c164) (.node .leaf (some Lit.c292) .leaf))) none (.node (.node .leaf (some Lit.c196) .leaf) none (.node (.node .leaf (some Lit.c388) .leaf) (some Lit.c132) .leaf))))) (some Lit.c4) (.node (.node (.node (.node .leaf none (.node .leaf (some Lit.c184) (.node .leaf (some Lit.c312) .leaf))) (some Lit.c56) (.node (.node .leaf none (.node .leaf (some Lit.c344) .leaf)) (some Lit.c88) (.node (.node .leaf (some Lit.c408) .leaf) (some Lit.c152) .leaf))) none (.node (.node (.node .leaf (some Lit.c232) .leaf) none (.node .leaf (some Lit.c168) .leaf)) none (.node .leaf (some Lit.c72) (.node .leaf (some Lit.c136) .leaf)))) none (.node (.node (.node (.node .leaf (some Lit.c240) .leaf) (some Lit.c112) (.node .leaf (some Lit.c176) .leaf)) (some Lit.c48) (.node (.node .leaf (some Lit.c208) .leaf) none .leaf)) (some Lit.c16) (.node (.node (.node .leaf (some Lit.c224) .leaf) (some Lit.c96) (.node .leaf (some Lit.c160) (.node .leaf (some Lit.c288) .leaf))) none (.node (.node .leaf (some Lit.c192) .leaf) (some Lit.c64) (.node (.node .leaf (some Lit.c384) .leaf) (some Lit.c128) (.node .leaf (some Lit.c256) .leaf)))))))) none (.node (.node (.node (.node (.node (.node (.node .leaf none (.node .leaf (some Lit.c381) .leaf)) (some Lit.c125) (.node .leaf (some Lit.c189) (.node .leaf (some Lit.c317) .leaf))) (some Lit.c61) (.node (.node .leaf (some Lit.c221) (.node .leaf (some Lit.c349) .leaf)) (some Lit.c93) (.node .leaf (some Lit.c157) .leaf))) none (.node (.node .leaf (some Lit.c109) (.node .leaf (some Lit.c173) .leaf)) (some Lit.c45) (.node (.node .leaf (some Lit.c205) .leaf) none (.node .leaf (some Lit.c141) (.node .leaf (some Lit.c269) .leaf))))) (some Lit.c13) (.node (.node (.node (.node .leaf (some Lit.c245) (.node .leaf (some Lit.c373) .leaf)) (some Lit.c117) (.node .leaf (some Lit.c181) .leaf)) none (.node (.node .leaf (some Lit.c213) .leaf) (some Lit.c85) (.node .leaf (some Lit.c149) (.node .leaf (some Lit.c277) .leaf)))) (some Lit.c21) (.node (.node .leaf (some Lit.c101) (.node (.node .leaf (some Lit.c421) .leaf) (some Lit.c165) .leaf)) (some Lit.c37) (.node (.node .leaf (some Lit.c197) .leaf) (some Lit.c69) (.node .leaf (some Lit.c133) .leaf))))) none (.node (.node (.node (.node .leaf (some Lit.c121) (.node .leaf none (.node .leaf (some Lit.c313) .leaf))) (some Lit.c57) (.node (.node .leaf none (.node .leaf (some Lit.c345) .leaf)) (some Lit.c89) (.node .leaf none (.node .leaf (some Lit.c281) .leaf)))) none (.node (.node (.node .leaf (some Lit.c233) .leaf) (some Lit.c105) (.node .leaf (some Lit.c169) (.node .leaf (some Lit.c297) .leaf))) (some Lit.c41) (.node .leaf (some Lit.c73) (.node .leaf (some Lit.c137) .leaf)))) none (.node (.node (.node .leaf (some Lit.c113) (.node .leaf (some Lit.c177) (.node .leaf (some Lit.c305) .leaf))) (some Lit.c49) (.node (.node .leaf (some Lit.c209) (.node .leaf (some Lit.c337) .leaf)) none .leaf)) (some Lit.c17) (.node (.node (.node .leaf none (.node .leaf (some Lit.c353) .leaf)) (some Lit.c97) (.node .leaf (some Lit.c161) (.node .leaf (some Lit.c289) .leaf))) (some Lit.c33) (.node (.node .leaf (some Lit.c193) .leaf) (some Lit.c65) (.node (.node .leaf (some Lit.c385) .leaf) (some Lit.c129) (.node .leaf (some Lit.c257) .leaf))))))) none (.node (.node (.node (.node (.node .leaf (some Lit.c123) (.node .leaf none (.node .leaf (some Lit.c315) .leaf))) (some Lit.c59) (.node (.node .leaf (some Lit.c219) .leaf) (some Lit.c91) (.node .leaf (some Lit.c155) (.node .leaf (some Lit.c283) .leaf)))) (some Lit.c27) (.node (.node (.node .leaf (some Lit.c235) .leaf) (some Lit.c107) (.node .leaf none (.node .leaf (some Lit.c299) .leaf))) none (.node (.node .leaf (some Lit.c203) .leaf) none (.node (.node .leaf (some Lit.c395) .leaf) (some Lit.c139) .leaf)))) (some Lit.c11) (.node (.node (.node (.node .leaf none (.node .leaf (some Lit.c371) .leaf)) (some Lit.c115) .leaf) (some Lit.c51) (.node (.node .leaf (some Lit.c211) .leaf) none (.node .leaf none (.node .leaf (some Lit.c275) .leaf)))) (some Lit.c19) (.node (.node .leaf (some Lit.c99) (.node .leaf (some Lit.c163) (.node .leaf (some Lit.c291) .leaf))) (some Lit.c35) (.node (.node .leaf (some Lit.c195) .leaf) (some Lit.c67) .leaf)))) none (.node (.node (.node (.node (.node .leaf (some Lit.c247) .leaf) none .leaf) none (.node (.node .leaf (some Lit.c215) (.node .leaf (some Lit.c343) .leaf)) (some Lit.c87) .leaf)) none (.node (.node (.node .leaf (some Lit.c231) .leaf) none (.node .leaf (some Lit.c167) (.node .leaf (some Lit.c295) .leaf))) none (.node (.node .leaf (some Lit.c199) .leaf) (some Lit.c71) (.node (.node .leaf (some Lit.c391) .leaf) (some Lit.c135) .leaf)))) none (.node (.node (.node (.node .leaf (some Lit.c239) .leaf) (some Lit.c111) (.node .leaf (some Lit.c175) (.node .leaf (some Lit.c303) .leaf))) (some Lit.c47) (.node (.node .leaf (some Lit.c207) (.node .leaf (some Lit.c335) .leaf)) none (.node .leaf none (.node .leaf (some Lit.c271) .leaf)))) none (.node (.node (.node .leaf (some Lit.c223) .leaf) (some Lit.c95) (.node .leaf (some Lit.c159) (.node .leaf (some Lit.c287) .leaf))) (some Lit.c31) (.node (.node .leaf (some Lit.c191) .leaf) (some Lit.c63) (.node (.node .leaf (some Lit.c383) .leaf) (some Lit.c127) .leaf))))))))
noncomputable def fn_0 : T CFunc := ((((((((((((((((((((T.leaf.set 4 Lit.c4).set 11 Lit.c11).set 12 Lit.c12).set 13 Lit.c13).set 16 Lit.c16).set 17 Lit.c17).set 18 Lit.c18).set 19 Lit.c19).set 20 Lit.c20).set 21 Lit.c21).set 27 Lit.c27).set 30 Lit.c30).set 31 Lit.c31).set 33 Lit.c33).set 34 Lit.c34).set 35 Lit.c35).set 37 Lit.c37).set 41 Lit.c41).set 42 Lit.c42).set 44 Lit.c44)
theorem fnAll_0 : FnAll Tryz.prog fn_0 := (((((((((((((((((((((FnAll.leaf _).set Tryz.func4 rfl k4).set Tryz.func11 rfl k11).set Tryz.func12 rfl k12).set Tryz.func13 rfl k13).set Tryz.func16 rfl k16).set Tryz.func17 rfl k17).set Tryz.func18 rfl k18).set Tryz.func19 rfl k19).set Tryz.func20 rfl k20).set Tryz.func21 rfl k21).set Tryz.func27 rfl k27).set Tryz.func30 rfl k30).set Tryz.func31 rfl k31).set Tryz.func33 rfl k33).set Tryz.func34 rfl k34).set Tryz.func35 rfl k35).set Tryz.func37 rfl k37).set Tryz.func41 rfl k41).set Tryz.func42 rfl k42).set Tryz.func44 rfl k44)
noncomputable def fn_1 : T CFunc := ((((((((((((((((((((fn_0.set 45 Lit.c45).set 46 Lit.c46).set 47 Lit.c47).set 48 Lit.c48).set 49 Lit.c49).set 50 Lit.c50).set 51 Lit.c51).set 54 Lit.c54).set 56 Lit.c56).set 57 Lit.c57).set 58 Lit.c58).set 59 Lit.c59).set 60 Lit.c60).set 61 Lit.c61).set 62 Lit.c62).set 63 Lit.c63).set 64 Lit.c64).set 65 Lit.c65).set 66 Lit.c66).set 67 Lit.c67)
theorem fnAll_1 : FnAll Tryz.prog fn_1 := ((((((((((((((((((((fnAll_0.set Tryz.func45 rfl k45).set Tryz.func46 rfl k46).set Tryz.func47 rfl k47).set Tryz.func48 rfl k48).set Tryz.func49 rfl k49).set Tryz.func50 rfl k50).set Tryz.func51 rfl k51).set Tryz.func54 rfl k54).set Tryz.func56 rfl k56).set Tryz.func57 rfl k57).set Tryz.func58 rfl k58).set Tryz.func59 rfl k59).set Tryz.func60 rfl k60).set Tryz.func61 rfl k61).set Tryz.func62 rfl k62).set Tryz.func63 rfl k63).set Tryz.func64 rfl k64).set Tryz.func65 rfl k65).set Tryz.func66 rfl k66).set Tryz.func67 rfl k67)
noncomputable def fn_2 : T CFunc := ((((((((((((((((((((fn_1.set 69 Lit.c69).set 70 Lit.c70).set 71 Lit.c71).set 72 Lit.c72).set 73 Lit.c73).set 74 Lit.c74).set 76 Lit.c76).set 85 Lit.c85).set 86 Lit.c86).set 87 Lit.c87).set 88 Lit.c88).set 89 Lit.c89).set 90 Lit.c90).set 91 Lit.c91).set 92 Lit.c92).set 93 Lit.c93).set 95 Lit.c95).set 96 Lit.c96).set 97 Lit.c97).set 98 Lit.c98)
theorem fnAll_2 : FnAll Tryz.prog fn_2 := ((((((((((((((((((((fnAll_1.set Tryz.func69 rfl k69).set Tryz.func70 rfl k70).set Tryz.func71 rfl k71).set Tryz.func72 rfl k72).set Tryz.func73 rfl k73).set Tryz.func74 rfl k74).set Tryz.func76 rfl k76).set Tryz.func85 rfl k85).set Tryz.func86 rfl k86).set Tryz.func87 rfl k87).set Tryz.func88 rfl k88).set Tryz.func89 rfl k89).set Tryz.func90 rfl k90).set Tryz.func91 rfl k91).set Tryz.func92 rfl k92).set Tryz.func93 rfl k93).set Tryz.func95 rfl k95).set Tryz.func96 rfl k96).set Tryz.func97 rfl k97).set Tryz.func98 rfl k98)
noncomputable def fn_3 : T CFunc := ((((((((((((((((((((fn_2.set 99 Lit.c99).set 100 Lit.c100).set 101 Lit.c101).set 105 Lit.c105).set 106 Lit.c106).set 107 Lit.c107).set 108 Lit.c108).set 109 Lit.c109).set 110 Lit.c110).set 111 Lit.c111).set 112 Lit.c112).set 113 Lit.c113).set 114 Lit.c114).set 115 Lit.c115).set 117 Lit.c117).set 121 Lit.c121).set 122 Lit.c122).set 123 Lit.c123).set 124 Lit.c124).set 125 Lit.c125)
theorem fnAll_3 : FnAll Tryz.prog fn_3 := ((((((((((((((((((((fnAll_2.set Tryz.func99 rfl k99).set Tryz.func100 rfl k100).set Tryz.func101 rfl k101).set Tryz.func105 rfl k105).set Tryz.func106 rfl k106).set Tryz.func107 rfl k107).set Tryz.func108 rfl k108).set Tryz.func109 rfl k109).set Tryz.func110 rfl k110).set Tryz.func111 rfl k111).set Tryz.func112 rfl k112).set Tryz.func113 rfl k113).set Tryz.func114 rfl k114).set Tryz.func115 rfl k115).set Tryz.func117 rfl k117).set Tryz.func121 rfl k121).set Tryz.func122 rfl k122).set Tryz.func123 rfl k123).set Tryz.func124 rfl k124).set Tryz.func125 rfl k125)
noncomputable def fn_4 : T CFunc := ((((((((((((((((((((fn_3.set 126 Lit.c126).set 127 Lit.c127).set 128 Lit.c128).set 129 Lit.c129).set 130 Lit.c130).set 132 Lit.c132).set 133 Lit.c133).set 134 Lit.c134).set 135 Lit.c135).set 136 Lit.c136).set 137 Lit.c137).set 138 Lit.c138).set 139 Lit.c139).set 140 Lit.c140).set 141 Lit.c141).set 149 Lit.c149).set 152 Lit.c152).set 154 Lit.c154).set 155 Lit.c155).set 156 Lit.c156)
theorem fnAll_4 : FnAll Tryz.prog fn_4 := ((((((((((((((((((((fnAll_3.set Tryz.func126 rfl k126).set Tryz.func127 rfl k127).set Tryz.func128 rfl k128).set Tryz.func129 rfl k129).set Tryz.func130 rfl k130).set Tryz.func132 rfl k132).set Tryz.func133 rfl k133).set Tryz.func134 rfl k134).set Tryz.func135 rfl k135).set Tryz.func136 rfl k136).set Tryz.func137 rfl k137).set Tryz.func138 rfl k138).set Tryz.func139 rfl k139).set Tryz.func140 rfl k140).set Tryz.func141 rfl k141).set Tryz.func149 rfl k149).set Tryz.func152 rfl k152).set Tryz.func154 rfl k154).set Tryz.func155 rfl k155).set Tryz.func156 rfl k156)
noncomputable def fn_5 : T CFunc := ((((((((((((((((((((fn_4.set 157 Lit.c157).set 158 Lit.c158).set 159 Lit.c159).set 160 Lit.c160).set 161 Lit.c161).set 162 Lit.c162).set 163 Lit.c163).set 164 Lit.c164).set 165 Lit.c165).set 166 Lit.c166).set 167 Lit.c167).set 168 Lit.c168).set 169 Lit.c169).set 170 Lit.c170).set 173 Lit.c173).set 175 Lit.c175).set 176 Lit.c176).set 177 Lit.c177).set 178 Lit.c178).set 181 Lit.c181)
theorem fnAll_5 : FnAll Tryz.prog fn_5 := ((((((((((((((((((((fnAll_4.set Tryz.func157 rfl k157).set Tryz.func158 rfl k158).set Tryz.func159 rfl k159).set Tryz.func160 rfl k160).set Tryz.func161 rfl k161).set Tryz.func162 rfl k162).set Tryz.func163 rfl k163).set Tryz.func164 rfl k164).set Tryz.func165 rfl k165).set Tryz.func166 rfl k166).set Tryz.func167 rfl k167).set Tryz.func168 rfl k168).set Tryz.func169 rfl k169).set Tryz.func170 rfl k170).set Tryz.func173 rfl k173).set Tryz.func175 rfl k175).set Tryz.func176 rfl k176).set Tryz.func177 rfl k177).set Tryz.func178 rfl k178).set Tryz.func181 rfl k181)
noncomputable def fn_6 : T CFunc := ((((((((((((((((((((fn_5.set 184 Lit.c184).set 188 Lit.c188).set 189 Lit.c189).set 190 Lit.c190).set 191 Lit.c191).set 192 Lit.c192).set 193 Lit.c193).set 194 Lit.c194).set 195 Lit.c195).set 196 Lit.c196).set 197 Lit.c197).set 198 Lit.c198).set 199 Lit.c199).set 202 Lit.c202).set 203 Lit.c203).set 204 Lit.c204).set 205 Lit.c205).set 207 Lit.c207).set 208 Lit.c208).set 209 Lit.c209)
theorem fnAll_6 : FnAll Tryz.prog fn_6 := ((((((((((((((((((((fnAll_5.set Tryz.func184 rfl k184).set Tryz.func188 rfl k188).set Tryz.func189 rfl k189).set Tryz.func190 rfl k190).set Tryz.func191 rfl k191).set Tryz.func192 rfl k192).set Tryz.func193 rfl k193).set Tryz.func194 rfl k194).set Tryz.func195 rfl k195).set Tryz.func196 rfl k196).set Tryz.func197 rfl k197).set Tryz.func198 rfl k198).set Tryz.func199 rfl k199).set Tryz.func202 rfl k202).set Tryz.func203 rfl k203).set Tryz.func204 rfl k204).set Tryz.func205 rfl k205).set Tryz.func207 rfl k207).set Tryz.func208 rfl k208).set Tryz.func209 rfl k209)
noncomputable def fn_7 : T CFunc := ((((((((((((((((((((fn_6.set 210 Lit.c210).set 211 Lit.c211).set 212 Lit.c212).set 213 Lit.c213).set 214 Lit.c214).set 215 Lit.c215).set 219 Lit.c219).set 221 Lit.c221).set 222 Lit.c222).set 223 Lit.c223).set 224 Lit.c224).set 228 Lit.c228).set 231 Lit.c231).set 232 Lit.c232).set 233 Lit.c233).set 234 Lit.c234).set 235 Lit.c235).set 236 Lit.c236).set 238 Lit.c238).set 239 Lit.c239)
theorem fnAll_7 : FnAll Tryz.prog fn_7 := ((((((((((((((((((((fnAll_6.set Tryz.func210 rfl k210).set Tryz.func211 rfl k211).set Tryz.func212 rfl k212).set Tryz.func213 rfl k213).set Tryz.func214 rfl k214).set Tryz.func215 rfl k215).set Tryz.func219 rfl k219).set Tryz.func221 rfl k221).set Tryz.func222 rfl k222).set Tryz.func223 rfl k223).set Tryz.func224 rfl k224).set Tryz.func228 rfl k228).set Tryz.func231 rfl k231).set Tryz.func232 rfl k232).set Tryz.func233 rfl k233).set Tryz.func234 rfl k234).set Tryz.func235 rfl k235).set Tryz.func236 rfl k236).set Tryz.func238 rfl k238).set Tryz.func239 rfl k239)
noncomputable def fn_8 : T CFunc := ((((((((((((((((((((fn_7.set 240 Lit.c240).set 244 Lit.c244).set 245 Lit.c245).set 246 Lit.c246).set 247 Lit.c247).set 252 Lit.c252).set 254 Lit.c254).set 256 Lit.c256).set 257 Lit.c257).set 258 Lit.c258).set 269 Lit.c269).set 270 Lit.c270).set 271 Lit.c271).set 275 Lit.c275).set 276 Lit.c276).set 277 Lit.c277).set 278 Lit.c278).set 281 Lit.c281).set 282 Lit.c282).set 283 Lit.c283)
theorem fnAll_8 : FnAll Tryz.prog fn_8 := ((((((((((((((((((((fnAll_7.set Tryz.func240 rfl k240).set Tryz.func244 rfl k244).set Tryz.func245 rfl k245).set Tryz.func246 rfl k246).set Tryz.func247 rfl k247).set Tryz.func252 rfl k252).set Tryz.func254 rfl k254).set Tryz.func256 rfl k256).set Tryz.func257 rfl k257).set Tryz.func258 rfl k258).set Tryz.func269 rfl k269).set Tryz.func270 rfl k270).set Tryz.func271 rfl k271).set Tryz.func275 rfl k275).set Tryz.func276 rfl k276).set Tryz.func277 rfl k277).set Tryz.func278 rfl k278).set Tryz.func281 rfl k281).set Tryz.func282 rfl k282).set Tryz.func283 rfl k283)
noncomputable def fn_9 : T CFunc := ((((((((((((((((((((fn_8.set 284 Lit.c284).set 286 Lit.c286).set 287 Lit.c287).set 288 Lit.c288).set 289 Lit.c289).set 290 Lit.c290).set 291 Lit.c291).set 292 Lit.c292).set 294 Lit.c294).set 295 Lit.c295).set 297 Lit.c297).set 298 Lit.c298).set 299 Lit.c299).set 300 Lit.c300).set 302 Lit.c302).set 303 Lit.c303).set 305 Lit.c305).set 312 Lit.c312).set 313 Lit.c313).set 315 Lit.c315)
theorem fnAll_9 : FnAll Tryz.prog fn_9 := ((((((((((((((((((((fnAll_8.set Tryz.func284 rfl k284).set Tryz.func286 rfl k286).set Tryz.func287 rfl k287).set Tryz.func288 rfl k288).set Tryz.func289 rfl k289).set Tryz.func290 rfl k290).set Tryz.func291 rfl k291).set Tryz.func292 rfl k292).set Tryz.func294 rfl k294).set Tryz.func295 rfl k295).set Tryz.func297 rfl k297).set Tryz.func298 rfl k298).set Tryz.func299 rfl k299).set Tryz.func300 rfl k300).set Tryz.func302 rfl k302).set Tryz.func303 rfl k303).set Tryz.func305 rfl k305).set Tryz.func312 rfl k312).set Tryz.func313 rfl k313).set Tryz.func315 rfl k315)
noncomputable def fn_10 : T CFunc := ((((((((((((((((((((fn_9.set 316 Lit.c316).set 317 Lit.c317).set 326 Lit.c326).set 335 Lit.c335).set 337 Lit.c337).set 338 Lit.c338).set 343 Lit.c343).set 344 Lit.c344).set 345 Lit.c345).set 346 Lit.c346).set 348 Lit.c348).set 349 Lit.c349).set 350 Lit.c350).set 353 Lit.c353).set 371 Lit.c371).set 372 Lit.c372).set 373 Lit.c373).set 374 Lit.c374).set 378 Lit.c378).set 380 Lit.c380)
theorem fnAll_10 : FnAll Tryz.prog fn_10 := ((((((((((((((((((((fnAll_9.set Tryz.func316 rfl k316).set Tryz.func317 rfl k317).set Tryz.func326 rfl k326).set Tryz.func335 rfl k335).set Tryz.func337 rfl k337).set Tryz.func338 rfl k338).set Tryz.func343 rfl k343).set Tryz.func344 rfl k344).set Tryz.func345 rfl k345).set Tryz.func346 rfl k346).set Tryz.func348 rfl k348).set Tryz.func349 rfl k349).set Tryz.func350 rfl k350).set Tryz.func353 rfl k353).set Tryz.func371 rfl k371).set Tryz.func372 rfl k372).set Tryz.func373 rfl k373).set Tryz.func374 rfl k374).set Tryz.func378 rfl k378).set Tryz.func380 rfl k380)
noncomputable def fn_11 : T CFunc := (((((((((((((((fn_10.set 381 Lit.c381).set 382 Lit.c382).set 383 Lit.c383).set 384 Lit.c384).set 385 Lit.c385).set 386 Lit.c386).set 388 Lit.c388).set 390 Lit.c390).set 391 Lit.c391).set 395 Lit.c395).set 408 Lit.c408).set 420 Lit.c420).set 421 Lit.c421).set 422 Lit.c422).set 430 Lit.c430)
theorem fnAll_11 : FnAll Tryz.prog fn_11 := (((((((((((((((fnAll_10.set Tryz.func381 rfl k381).set Tryz.func382 rfl k382).set Tryz.func383 rfl k383).set Tryz.func384 rfl k384).set Tryz.func385 rfl k385).set Tryz.func386 rfl k386).set Tryz.func388 rfl k388).set Tryz.func390 rfl k390).set Tryz.func391 rfl k391).set Tryz.func395 rfl k395).set Tryz.func408 rfl k408).set Tryz.func420 rfl k420).set Tryz.func421 rfl k421).set Tryz.func422 rfl k422).set Tryz.func430 rfl k430)
theorem fnT_eq : fnT = fn_11 := by kernel_rfl
theorem fnT_all : FnAll Tryz.prog fnT := by rw [fnT_eq]; exact fnAll_11
end Go.Ab

namespace Go.Ab
section
variable {P : Program} {ρ : Nat → Int} {R : Inj} {w : World} {st st' : St} {v : AV} {args : List AV}
def OvOK (P : Program) (ρ : Nat → Int) (f : Nat) (o : Ov) : Prop :=
  (∀ args st v st', o args st = .ok (v, st') → Mono st st') ∧
  ∀ args st v st', o args st = .ok (v, st') → ∀ R w cargs, VRs ρ R args cargs.toList → Glob R → InvW P ρ R st w → Fresh R st.next st'.next → Conds ρ st'.tr →
    Upon P (fun cv w' => ∃ R', VR ρ R' v cv ∧ Step P ρ R st.heap w R' st'.heap w' st'.low st.next st'.next) ((callFunc f cargs).run P w)
theorem run_extern {f : Nat} {fn : Func} {e : Array Value → Sem Value} (hf : P.funcs[f]? = some fn) (hname : (fn.name == "runtime.NumGoroutine") = false) (hb : fn.body.isNone = true) (hn : Extern.findNext fn = none) (he : Extern.find fn = some e) (args : Array Value) {cv : Value} {w' : World}
    (hr : (e args).run P w = .ok cv w') : (callFunc f args).run P w = .ok (.value cv) w' := by
  have h1 : fn.name ≠ "runtime.NumGoroutine" := by simpa using hname
  have h2 : fn.body = none := by simpa using hb
  simp [callFunc, Sem.run, program, hf, h1, h2, hn, he, mark, hr]
theorem VRs.sing {a : AV} {vs : List Value} (h : VRs ρ R [a] vs) : ∃ v, vs = [v] ∧ VR ρ R a v := by
  cases h with | cons _ v _ m h hs => cases hs; exact ⟨v, rfl, h⟩
theorem VRs.pair {a b : AV} {vs : List Value} (h : VRs ρ R [a, b] vs) : ∃ v u, vs = [v, u] ∧ VR ρ R a v ∧ VR ρ R b u := by
  cases h with | cons _ v _ m h hs => obtain ⟨u, rfl, h2⟩ := hs.sing; exact ⟨v, u, rfl, h, h2⟩
theorem arr_eq {a : Array Value} {l : List Value} (h : a.toList = l) : a = l.toArray := by rw [← h]
theorem ovNoEscape_ok {f : Nat} {fn : Func} (hf : P.funcs[f]? = some fn) (hname : (fn.name == "runtime.NumGoroutine") = false) (hb : fn.body.isNone = true) (hn : Extern.findNext fn = none) (he : Extern.find fn = some Extern.AbiNoEscape.same) : OvOK P ρ f ovNoEscape := by
  have key : ∀ args st v st', ovNoEscape args st = .ok (v, st') → args = [v] ∧ st' = st := by
    intro args st v st' h
    unfold ovNoEscape at h
    split at h
    · obtain ⟨rfl, rfl⟩ := ok_inj h; exact ⟨rfl, rfl⟩
    · cases h
  refine ⟨fun args st v st' h => (key _ _ _ _ h).2 ▸ Mono.refl _, fun args st v st' h R w cargs hv gl iv hfr hcd => ?_⟩
  obtain ⟨rfl, rfl⟩ := key _ _ _ _ h
  obtain ⟨cv, hc, hr⟩ := hv.sing
  rw [run_extern hf hname hb hn he cargs (cv := cv) (w' := w) (by rw [arr_eq hc]; rw [show Extern.AbiNoEscape.same [cv].toArray = pure cv from rfl]; rfl)]
  exact ⟨R, hr, Step.refl iv.inv _ _⟩
theorem ovMapsClone_ok {f : Nat} {fn : Func} (hf : P.funcs[f]? = some fn) (hname : (fn.name == "runtime.NumGoroutine") = false) (hb : fn.body.isNone = true) (hn : Extern.findNext fn = none) (he : Extern.find fn = some Extern.MapsClone.clone) : OvOK P ρ f ovMapsClone := by
  have key : ∀ args st v st', ovMapsClone args st = .ok (v, st') → ∃ t r es clock, args = [.iface t (.map r)] ∧ st.heap.get r = some (.map es clock) ∧ v = .iface t (.map (st.new (.map es clock)).1) ∧ st' = (st.new (.map es clock)).2 := by
    intro args st v st' h
    unfold ovMapsClone at h
    split at h
    · split at h
      · simp only [St.newK_eq] at h
        obtain ⟨rfl, rfl⟩ := ok_inj h
        exact ⟨_, _, _, _, rfl, by assumption, rfl, rfl⟩
      · cases h
    · cases h
  refine ⟨fun args st v st' h => ?_, fun args st v st' h R w cargs hv gl iv hfr hcd => ?_⟩
  · obtain ⟨t, r, es, clock, _, _, _, rfl⟩ := key _ _ _ _ h; exact Mono.new _ _
  · obtain ⟨t, r, es, clock, rfl, hg, rfl, rfl⟩ := key _ _ _ _ h
    obtain ⟨cv, hc, hr⟩ := hv.sing
    cases hr with
    | iface _ _ cm hr =>
      cases hr with
      | map _ l hR =>
        obtain ⟨x, hx, ho⟩ := iv.inv.at hg hR
        cases ho with
        | map _ _ _ ces hes =>
          rw [run_extern hf hname hb hn he cargs (cv := .iface t (.map (some w.heap.size))) (w' := { w with heap := w.heap.push (.map ces clock) }) (by
            rw [arr_eq hc]
            rw [show Extern.MapsClone.clone [Value.iface t (.map (some l.b))].toArray = (do
              let .map entries clock ← getObj l.b | stuck "maps.clone: a map expected"
              pure (.iface t (.map (some (← newObj (.map entries clock)))))) from rfl]
            simp [run_getObj' (P := P) hx (by intros; simp)])]
          have hn0 : R st.next = none := hfr _ (Nat.le_refl _) (by simp [St.new])
          refine ⟨R.upd st.next ⟨w.heap.size, 0, 0⟩, .iface _ _ _ (.map _ ⟨w.heap.size, 0, 0⟩ (Inj.upd_eq _ _ _)), Step.alloc iv.inv hn0 rfl (.map _ _ _ _ ?_) _⟩
          exact hes.mono (Inj.upd_ext hn0 _)
theorem digits_size (n t : Nat) (acc : Array Value) : (Extern.BytealgMakeNoZero.digits n t acc).size = acc.size + n := by
  induction n generalizing t acc with
  | zero => rfl
  | succ n ih => simp [Extern.BytealgMakeNoZero.digits, ih]; omega
theorem ovMakeNoZero_ok {f : Nat} {fn : Func} {t elem : TypeId} (hf : P.funcs[f]? = some fn) (hname : (fn.name == "runtime.NumGoroutine") = false) (hb : fn.body.isNone = true) (hn : Extern.findNext fn = none)
    (he : Extern.find fn = some (Extern.BytealgMakeNoZero.makeNoZero fn.params fn.resultTypes)) (ht : fn.resultTypes[0]? = some t) (hu : P.underlying t = some (.slice elem)) : OvOK P ρ f (ovMakeNoZero elem) := by
  have key : ∀ args st v st', ovMakeNoZero elem args st = .ok (v, st') → ∃ n, args = [.int .i64 (.ofNat n)] ∧ n ≤ 70368744177664 ∧ v = .slice (st.new (.cells (some elem) .leaf 0)).1 0 n n false 1 ∧ st' = (st.new (.cells (some elem) .leaf 0)).2 := by
    intro args st v st' h
    unfold ovMakeNoZero at h
    split at h
    · split at h
      · rename_i hb
        simp only [St.newK_eq] at h
        obtain ⟨rfl, rfl⟩ := ok_inj h
        exact ⟨_, rfl, ble_true hb, rfl, rfl⟩
      · cases h
    · cases h
  refine ⟨fun args st v st' h => ?_, fun args st v st' h R w cargs hv gl iv hfr hcd => ?_⟩
  · obtain ⟨n, _, _, _, rfl⟩ := key _ _ _ _ h; exact Mono.new _ _
  · obtain ⟨n, rfl, hn46, rfl, rfl⟩ := key _ _ _ _ h
    obtain ⟨cv, hc, hr⟩ := hv.sing
    cases hr
    have hn0 : R st.next = none := hfr _ (Nat.le_refl _) (by simp [St.new])
    obtain ⟨C, hC, hC2⟩ : ∃ C, (Question.appendCap n 0 elem).cut (w.tape w.drawn (.appendCap n 0 elem)) = C ∧ n ≤ C := ⟨_, rfl, by simp only [Question.cut]; omega⟩
    obtain ⟨B, hB⟩ : ∃ B, (Question.extern "internal/bytealg.MakeNoZero.bytes" 0).cut (w.tape (w.drawn + 1) (.extern "internal/bytealg.MakeNoZero.bytes" 0)) = B := ⟨_, rfl⟩
    have hrun : (Extern.BytealgMakeNoZero.makeNoZero fn.params fn.resultTypes #[.int .i64 (Int.ofNat n)]).run P w = .ok (.slice (some ⟨w.heap.size, 0, none⟩) n C) { w with heap := w.heap.push (.cells (Extern.BytealgMakeNoZero.digits C B #[]) elem), drawn := w.drawn + 2 } := by
      rw [show Extern.BytealgMakeNoZero.makeNoZero fn.params fn.resultTypes #[.int .i64 (Int.ofNat n)] = (do
        let some t := fn.resultTypes[0]? | stuck "bytealg.MakeNoZero: no result type"
        let .slice elem ← underlying t | stuck "bytealg.MakeNoZero: slice type expected"
        if (Int.ofNat n) < 0 || (Int.ofNat n) > 2 ^ 48 then runtimePanic (.error "makeslice: len out of range")
        let cap ← choose (.appendCap (Int.ofNat n).toNat 0 elem)
        askRoom cap
        let bytes ← choose (.extern "internal/bytealg.MakeNoZero.bytes" 0)
        let a ← newRow elem (Extern.BytealgMakeNoZero.digits cap bytes #[])
        pure (.slice (some a) (Int.ofNat n).toNat cap)) from rfl]
      have h1 : (decide ((Int.ofNat n) < 0) || decide ((Int.ofNat n) > 2 ^ 48)) = false := by
        have : (Int.ofNat n) = (n : Int) := rfl
        simp only [this, Bool.or_eq_false_iff, decide_eq_false_iff_not]; omega
      have hroom : ∀ w : World, (askRoom C).run P w = .ok () w := fun w => by unfold askRoom; split <;> simp [mark, Sem.run]
      simp only [ht, Sem.run_bind, run_und hu, Result.andThen_ok, h1]
      simp only [Bool.false_eq_true, if_false, Sem.run_bind, run_choose, Question.forced, Result.andThen_ok, Int.toNat_natCast, Int.ofNat_eq_natCast, hC, hroom, newRow, run_newObj, Sem.run_pure]
      simp [hB]
      rfl
    rw [run_extern hf hname hb hn he cargs (by rw [arr_eq hc]; exact hrun)]
    have hsz := digits_size C B #[]
    have hsz : (Extern.BytealgMakeNoZero.digits C B #[]).size = C := by simpa using hsz
    have iv1 : Inv P ρ R st.heap { w with drawn := w.drawn + 2 } := iv.inv.congr rfl
    have step := Step.alloc (P := P) (w := { w with drawn := w.drawn + 2 }) iv1 hn0 (l := ⟨w.heap.size, 0, C⟩) rfl (.cells (some elem) .leaf 0 _ (Extern.BytealgMakeNoZero.digits C B #[]) elem (0, 0)
      ⟨fun e' h => by injection h with h; exact ⟨h, rfl, .inl rfl⟩, by simp [hsz], fun i v h => by simp [T.get_leaf] at h, fun i _ _ h => by omega⟩) st.low
    exact ⟨_, .slice _ 0 n n false 1 ⟨w.heap.size, 0, C⟩ _ C (Inj.upd_eq _ _ _) (.inr rfl) (Nat.le_refl _) hC2 (fun h => by cases h) (by simp), (Step.drew iv.inv st.low st.next (w.drawn + 2)).trans step (Nat.le_refl _) (Nat.le_refl _) (Nat.le_succ _)⟩
end
end Go.Ab

namespace Go.Ab
section
variable {P : Program} {ρ : Nat → Int} {R : Inj} {w : World} {st st' : St} {v : AV} {args : List AV}
theorem findByte_spec (c : Nat) (hc : c < 256) : ∀ (n b i : Nat), findByte c n b i = match (unpack n b).findIdx? (· == UInt8.ofNat c) with | some k => Int.ofNat (i + k) | none => Int.negSucc 0 := by
  intro n
  induction n with
  | zero => intro b i; simp [findByte, unpack]
  | succ n ih =>
    intro b i
    simp only [findByte, unpack, List.findIdx?_cons]
    have e8 : Nat.shiftRight b 8 = b / 256 := by show b >>> 8 = _; rw [Nat.shiftRight_eq_div_pow]
    have hm : Nat.mod b 256 = b % 256 := rfl
    rw [e8, hm]
    cases h : Nat.beq (b % 256) c with
    | true =>
      have := beq_true h
      have hb : (UInt8.ofNat (b % 256) == UInt8.ofNat c) = true := by rw [this]; simp
      rw [hb]; simp
    | false =>
      have hne : b % 256 ≠ c := beq_false' h
      have hb : (UInt8.ofNat (b % 256) == UInt8.ofNat c) = false := by
        simp only [beq_eq_false_iff_ne, ne_eq]
        intro e
        have := congrArg UInt8.toNat e
        rw [u8_toNat, UInt8.toNat_ofNat_of_lt' (by omega)] at this
        exact hne this
      rw [hb, ih]
      cases hf : (unpack n (b / 256)).findIdx? (· == UInt8.ofNat c) with
      | none => simp
      | some k =>
        simp only [Bool.false_eq_true, if_false, Option.map_some]
        congr 1
        show Nat.succ i + k = i + (k + 1)
        omega
theorem countByte_spec (c : Nat) (hc : c < 256) : ∀ (n b i : Nat), (countByte c n b i : Int) = (unpack n b).foldl (fun (n : Int) x => if x == UInt8.ofNat c then n + 1 else n) (i : Int) := by
  intro n
  induction n with
  | zero => intro b i; simp [countByte, unpack]
  | succ n ih =>
    intro b i
    simp only [countByte, unpack, List.foldl_cons]
    have e8 : Nat.shiftRight b 8 = b / 256 := by show b >>> 8 = _; rw [Nat.shiftRight_eq_div_pow]
    have hm : Nat.mod b 256 = b % 256 := rfl
    rw [e8, hm]
    cases h : Nat.beq (b % 256) c with
    | true =>
      have := beq_true h
      have hb : (UInt8.ofNat (b % 256) == UInt8.ofNat c) = true := by rw [this]; simp
      rw [hb]
      simp only [if_true]
      rw [ih]; rfl
    | false =>
      have hne : b % 256 ≠ c := beq_false' h
      have hb : (UInt8.ofNat (b % 256) == UInt8.ofNat c) = false := by
        simp only [beq_eq_false_iff_ne, ne_eq]
        intro e
        have := congrArg UInt8.toNat e
        rw [u8_toNat, UInt8.toNat_ofNat_of_lt' (by omega)] at this
        exact hne this
      rw [hb]
      simp only [Bool.false_eq_true, if_false]
      rw [ih]
theorem find_range {α : Type} (p : α → Bool) : ∀ (l : List α) (k : Nat) (g : Nat → Bool), (∀ j x, l[j]? = some x → g (k + j) = p x) → (List.range' k l.length).find? g = (l.findIdx? p).map (k + ·) := by
  intro l
  induction l with
  | nil => intro k g _; simp
  | cons x l ih =>
    intro k g h
    simp only [List.length_cons, List.range'_succ, List.find?_cons, List.findIdx?_cons]
    rw [show g k = p x from h 0 x rfl]
    cases p x with
    | true => simp
    | false =>
      simp only [Bool.false_eq_true, if_false]
      rw [ih (k + 1) g fun j y hy => by rw [show k + 1 + j = k + (j + 1) by omega]; exact h (j + 1) y (by simpa using hy)]
      simp [Option.map_map]
      congr 1
      funext a; simp; omega
theorem indexByte_run {s : ByteArray} {n b c : Nat} (hs : s.data.toList = unpack n b) (hc : c < 256) : (Extern.BytealgIndexByte.indexByte #[.string s, .int .u8 (Int.ofNat c)]).run P w = .ok (.int .i64 (findByte c n b 0)) w := by
  rw [show Extern.BytealgIndexByte.indexByte #[.string s, .int .u8 (Int.ofNat c)] = (do
    let b ← Extern.Bytes.bytesOf (.string s)
    let c ← Extern.Bytes.asByte (.int .u8 (Int.ofNat c))
    match (List.range b.size).find? fun i => b[i]! == c with
    | some i => pure (goInt i)
    | none => pure (goInt (-1))) from rfl]
  have hsz : s.size = (unpack n b).length := by rw [← hs]; simp
  have hfind : (List.range s.size).find? (fun i => s[i]! == (Int.ofNat c).toNat.toUInt8) = (unpack n b).findIdx? (· == UInt8.ofNat c) := by
    rw [List.range_eq_range', hsz, find_range (p := (· == UInt8.ofNat c))]
    · simp
    · intro j x hx
      simp only [Nat.zero_add]
      have hlt : j < s.size := by rw [hsz]; exact (List.getElem?_eq_some_iff.1 hx).1
      have : s[j]! = x := by
        rw [getElem!_pos s j hlt]
        rw [← hs] at hx
        have h2 := (List.getElem?_eq_some_iff.1 hx).2
        rw [← h2]; rfl
      rw [this]; rfl
  simp only [Extern.Bytes.bytesOf, Extern.Bytes.asByte, Sem.run_bind, Sem.run_pure, Result.andThen_ok, hfind]
  rw [findByte_spec c hc]
  cases (unpack n b).findIdx? (· == UInt8.ofNat c) with
  | none => rfl
  | some k => simp [goInt]
theorem count_run {s : ByteArray} {n b c : Nat} (hs : s.data.toList = unpack n b) (hc : c < 256) : (Extern.BytealgCount.count #[.string s, .int .u8 (Int.ofNat c)]).run P w = .ok (.int .i64 (.ofNat (countByte c n b 0))) w := by
  rw [show Extern.BytealgCount.count #[.string s, .int .u8 (Int.ofNat c)] = (do
    let b ← Extern.Bytes.bytesOf (.string s)
    let c ← Extern.Bytes.asByte (.int .u8 (Int.ofNat c))
    pure (goInt (b.foldl (fun n x => if x == c then n + 1 else n) (0 : Nat)))) from rfl]
  have hf : s.foldl (fun (n : Int) x => if x == (Int.ofNat c).toNat.toUInt8 then n + 1 else n) ((0 : Nat) : Int) = (countByte c n b 0 : Int) := by
    rw [countByte_spec c hc, ← hs, Go.Lib.foldl_data]
    rfl
  simp only [Extern.Bytes.bytesOf, Extern.Bytes.asByte, Sem.run_bind, Sem.run_pure, Result.andThen_ok, hf]
  rfl
theorem ovIndexByteString_ok {f : Nat} {fn : Func} (hf : P.funcs[f]? = some fn) (hname : (fn.name == "runtime.NumGoroutine") = false) (hb : fn.body.isNone = true) (hn : Extern.findNext fn = none) (he : Extern.find fn = some Extern.BytealgIndexByte.indexByte) : OvOK P ρ f ovIndexByteString := by
  have key : ∀ args st v st', ovIndexByteString args st = .ok (v, st') → ∃ n b c, args = [.str n b, .int .u8 (.ofNat c)] ∧ c < 256 ∧ v = .int .i64 (findByte c n b 0) ∧ st' = st := by
    intro args st v st' h
    unfold ovIndexByteString at h
    split at h
    · split at h
      · rename_i hb
        simp only [forceI_eq] at h
        obtain ⟨rfl, rfl⟩ := ok_inj h
        exact ⟨_, _, _, rfl, blt_true hb, rfl, rfl⟩
      · cases h
    · cases h
  refine ⟨fun args st v st' h => ?_, fun args st v st' h R w cargs hv gl iv hfr hcd => ?_⟩
  · obtain ⟨_, _, _, _, _, _, rfl⟩ := key _ _ _ _ h; exact Mono.refl _
  · obtain ⟨n, b, c, rfl, hc, rfl, rfl⟩ := key _ _ _ _ h
    obtain ⟨v1, v2, hcc, h1, h2⟩ := hv.pair
    cases h2
    cases h1 with
    | str _ _ s hs hb' =>
      rw [run_extern hf hname hb hn he cargs (by rw [arr_eq hcc]; exact indexByte_run hs hc)]
      exact ⟨R, .int _ _, Step.refl iv.inv _ _⟩
theorem ovCountString_ok {f : Nat} {fn : Func} (hf : P.funcs[f]? = some fn) (hname : (fn.name == "runtime.NumGoroutine") = false) (hb : fn.body.isNone = true) (hn : Extern.findNext fn = none) (he : Extern.find fn = some Extern.BytealgCount.count) : OvOK P ρ f ovCountString := by
  have key : ∀ args st v st', ovCountString args st = .ok (v, st') → ∃ n b c, args = [.str n b, .int .u8 (.ofNat c)] ∧ c < 256 ∧ v = .int .i64 (.ofNat (countByte c n b 0)) ∧ st' = st := by
    intro args st v st' h
    unfold ovCountString at h
    split at h
    · split at h
      · rename_i hb
        simp only [forceN_eq] at h
        obtain ⟨rfl, rfl⟩ := ok_inj h
        exact ⟨_, _, _, rfl, blt_true hb, rfl, rfl⟩
      · cases h
    · cases h
  refine ⟨fun args st v st' h => ?_, fun args st v st' h R w cargs hv gl iv hfr hcd => ?_⟩
  · obtain ⟨_, _, _, _, _, _, rfl⟩ := key _ _ _ _ h; exact Mono.refl _
  · obtain ⟨n, b, c, rfl, hc, rfl, rfl⟩ := key _ _ _ _ h
    obtain ⟨v1, v2, hcc, h1, h2⟩ := hv.pair
    cases h2
    cases h1 with
    | str _ _ s hs hb' =>
      rw [run_extern hf hname hb hn he cargs (by rw [arr_eq hcc]; exact count_run hs hc)]
      exact ⟨R, .int _ _, Step.refl iv.inv _ _⟩
end
end Go.Ab

namespace Go.Ab
section
variable {P : Program} {ρ : Nat → Int} {R : Inj} {w : World}
structure Born (es : Array MapEntry) (clock : Nat) : Prop where
  lt : ∀ e ∈ es, e.born < clock
  uniq : ∀ e ∈ es, ∀ e' ∈ es, e.born = e'.born → e = e'
theorem next_map {r m clock : Nat} {es : Array MapEntry} {seen : Array Nat} {t : TypeId} (hr : w.heap[r]? = some (.mapIter (some m) clock seen clock)) (hm : w.heap[m]? = some (.map es clock)) (hb : Born es clock) :
    ((∀ e ∈ es, e.born ∈ seen) ∧ (Instr.next (.pointer (some ⟨r, 0, none⟩)) false t).run P w = .ok (.tuple #[.bool false]) w) ∨
    ∃ e ∈ es, e.born ∉ seen ∧ ∃ k, (Instr.next (.pointer (some ⟨r, 0, none⟩)) false t).run P w = .ok (.tuple #[.bool true, e.key, e.val]) { w with drawn := k, heap := w.heap.setIfInBounds r (.mapIter (some m) clock (seen.push e.born) clock) } := by
  have h1 : (getObj r).run P w = .ok (.mapIter (some m) clock seen clock) w := run_getObj' hr (by intros; simp)
  have h2 : (getObj m).run P w = .ok (.map es clock) w := run_getObj' hm (by intros; simp)
  have hall : (!seen.isEmpty && !es.isEmpty && es.all (fun e => decide (e.born ≥ clock))) = false := by
    cases hes : es.isEmpty with
    | true => simp
    | false =>
      have : es.all (fun e => decide (e.born ≥ clock)) = false := by
        rw [Bool.eq_false_iff]
        intro h
        have hne : es.size ≠ 0 := by simpa [Array.isEmpty] using hes
        have hmem : es[0]'(by omega) ∈ es := Array.getElem_mem _
        have h3 := Array.all_eq_true_iff_forall_mem.1 h _ hmem
        have h4 := hb.lt _ hmem
        simp only [decide_eq_true_eq] at h3
        omega
      rw [this]; simp
  generalize hleft : es.filter (fun e => !seen.contains e.born) = left
  have hl : ∀ e, e ∈ left ↔ e ∈ es ∧ e.born ∉ seen := by
    intro e; rw [← hleft, Array.mem_filter]; simp
  have hold : left.filter (fun e => decide (e.born < clock)) = left := by
    rw [Array.filter_eq_self]; intro e he; simpa using hb.lt e ((hl e).1 he).1
  have hnew : left.filter (fun e => decide (e.born ≥ clock)) = #[] := by
    rw [Array.filter_eq_empty_iff]; intro e he; have := hb.lt e ((hl e).1 he).1; simp; omega
  unfold Instr.next
  simp only [Sem.run_bind, h1, Result.andThen_ok, h2, hall, Bool.false_eq_true, if_false, hleft, hold, hnew, Array.append_empty, run_choose]
  by_cases he : left = #[]
  · left
    subst he
    refine ⟨fun e hem => ?_, ?_⟩
    · by_cases hs : e.born ∈ seen
      · exact hs
      · have := (hl e).2 ⟨hem, hs⟩; simp at this
    · simp [Question.forced]
  · right
    have hne : left.isEmpty = false := by simpa [Array.isEmpty] using he
    have hpos : 0 < left.size := by
      rcases Nat.eq_zero_or_pos left.size with h | h
      · exact absurd (Array.eq_empty_of_size_eq_zero h) he
      · exact h
    have hset : ∀ (w' : World) (e : MapEntry), w'.heap = w.heap → (setObj r (.mapIter (some m) clock (seen.push e.born) clock)).run P w' = .ok () { w' with heap := w'.heap.setIfInBounds r (.mapIter (some m) clock (seen.push e.born) clock) } := by
      intro w' e hw
      exact run_setObj (o := .mapIter (some m) clock seen clock) (by rw [hw]; exact hr) (by intros; simp)
    have fin : ∀ (j : Nat) (w' : World), j < left.size → w'.heap = w.heap → w'.tape = w.tape → w'.os = w.os → w'.output = w.output →
        ∃ e ∈ es, e.born ∉ seen ∧ ∃ k, Sem.run P (match (left.map some)[j]? with
          | some (some e) => do
            setObj r (.mapIter (some m) clock (seen.push e.born) clock)
            pure (.tuple #[.bool true, e.key, e.val])
          | some none => pure (Value.tuple #[.bool false])
          | none => stuck "Next: no such candidate") w' = .ok (.tuple #[.bool true, e.key, e.val]) { w with drawn := k, heap := w.heap.setIfInBounds r (.mapIter (some m) clock (seen.push e.born) clock) } := by
      intro j w' hj e1 e2 e3 e4
      have hg : left[j]? = some left[j] := Array.getElem?_eq_getElem hj
      have hmem := (hl left[j]).1 (Array.getElem_mem hj)
      refine ⟨left[j], hmem.1, hmem.2, w'.drawn, ?_⟩
      simp only [Array.getElem?_map, hg, Option.map_some, Sem.run_bind, hset w' _ e1, Result.andThen_ok, Sem.run_pure]
      rw [e1]
      congr 1
      cases w'; simp_all
    simp only [hne, Bool.false_eq_true, if_false, Array.empty_append, Array.size_map]
    split
    · simp only [Result.andThen_ok]
      exact fin 0 w hpos rfl rfl rfl rfl
    · simp only [Result.andThen_ok]
      exact fin _ _ (Nat.mod_lt _ hpos) rfl rfl rfl rfl
theorem entry_map {r m clock b : Nat} {es : Array MapEntry} {seen : Array Nat} {e : MapEntry} (hr : w.heap[r]? = some (.mapIter (some m) clock (seen.push b) clock)) (hm : w.heap[m]? = some (.map es clock)) (hb : Born es clock) (he : e ∈ es) (heb : e.born = b) :
    (Instr.entry (.pointer (some ⟨r, 0, none⟩))).run P w = .ok (.tuple #[e.key, e.val]) w := by
  have h1 : (getObj r).run P w = .ok (.mapIter (some m) clock (seen.push b) clock) w := run_getObj' hr (by intros; simp)
  have h2 : (getObj m).run P w = .ok (.map es clock) w := run_getObj' hm (by intros; simp)
  have hfind : es.find? (fun x => x.born == b) = some e := by
    cases hf : es.find? (fun x => x.born == b) with
    | none =>
      rw [Array.find?_eq_none] at hf
      exact absurd (by simpa using heb) (hf e he)
    | some e' =>
      have h3 := Array.mem_of_find?_eq_some hf
      have h4 := Array.find?_some hf
      simp only [beq_iff_eq] at h4
      rw [hb.uniq e' h3 e he (by rw [h4, heb])]
  simp [Instr.entry, h1, h2, hfind]
structure Grew (w w' : World) : Prop where
  size : w.heap.size ≤ w'.heap.size
  keep : ∀ b, b < w.heap.size → w'.heap[b]? = w.heap[b]?
  tape : w'.tape = w.tape
  os : w'.os = w.os
  out : w'.output = w.output
theorem Grew.refl (w : World) : Grew w w := ⟨Nat.le_refl _, fun _ _ => rfl, rfl, rfl, rfl⟩
theorem Grew.trans {a b c : World} (h : Grew a b) (h' : Grew b c) : Grew a c :=
  ⟨Nat.le_trans h.size h'.size, fun i hi => by rw [h'.keep i (Nat.lt_of_lt_of_le hi h.size), h.keep i hi], h'.tape.trans h.tape, h'.os.trans h.os, h'.out.trans h.out⟩
theorem Grew.step {h : T AObj} {w' : World} (g : Grew w w') (iv : Inv P ρ R h w) (low n : Nat) : Step P ρ R h w R h w' low n n := by
  refine ⟨⟨fun id o ho => ?_, iv.inj⟩, fun _ _ => rfl, g.size, fun b hb => g.keep b (Nat.lt_of_not_le fun c => hb (.inl c)), fun id o l ho hr => .inl ⟨o, ho, hr⟩, g.tape, g.os, g.out, fun _ h _ => h⟩
  obtain ⟨l, x, h1, h2, h3⟩ := iv.live id o ho
  exact ⟨l, x, h1, by rw [g.keep _ (Array.getElem?_eq_some_iff.1 h2).1]; exact h2, h3⟩
theorem Step.grew {h' : T AObj} {w' : World} {R' : Inj} {low n n' : Nat} (s : Step P ρ R .leaf w R' h' w' low n n') : Grew w w' :=
  ⟨s.size, fun b hb => s.keep b fun c => by
    rcases c with c | ⟨id, o, l, _, h, _⟩
    · omega
    · simp [T.get_leaf] at h, s.tape, s.os, s.out⟩
end
end Go.Ab

namespace Go.Ab
noncomputable def call0 : CallV := fun _ _ _ => .error ""
theorem call0_sound (P : Program) (ρ : Nat → Int) : CallSound P ρ call0 := ⟨fun _ _ _ _ _ h => (by cases h), fun _ _ _ _ _ h => (by cases h)⟩
section
variable {P : Program} {ρ : Nat → Int} {R : Inj} {N : Nat} {tm tm' : T AV} {a : Act} {w : World} {st st' : St} {F : Fence} {Q : Exit → Act → World → Prop}
theorem regFrom (hF : Wide F) {ops : Array Oper} {cops : List COper} (i : Nat) (hc : cOpers P .leaf N ops [] (ops.toList.drop i) = cops) (h : evOps call0 cops tm st = .ok (tm', st')) (t : TR ρ R .leaf N tm a.tmps) (gl : Glob R) (iv : InvW P ρ R st w) (hf : Fresh R st.next st'.next)
    (hcd : Conds ρ st'.tr) (hQ : ∀ a' w' R', TR ρ R' .leaf N tm' a'.tmps → a'.defers = a.defers → Step P ρ R st.heap w R' st'.heap w' st'.low st.next st'.next → Q .normal a' w') : wpOpsIn F 0 P ops Q (List.range' i (ops.size - i)) a w := by
  have := (ops_wp hF (n := 0) (call0_sound P ρ) (E := .leaf) (N := N) (ops := ops) (ops.toList.drop i) i [] tm st rfl (by rw [hc]; exact h)).2 R a w t (fun _ h => by cases h) gl iv hf hcd Q hQ
  simpa using this
theorem reg (hF : Wide F) {id : Nat} {ops : Array Oper} {cops : List COper} (hc : cOpers P .leaf N ops [] ops.toList = cops) (h : evOps call0 cops tm st = .ok (tm', st')) (t : TR ρ R .leaf N tm a.tmps) (gl : Glob R) (iv : InvW P ρ R st w) (hf : Fresh R st.next st'.next)
    (hcd : Conds ρ st'.tr) (hQ : ∀ a' w' R', TR ρ R' .leaf N tm' a'.tmps → a'.defers = a.defers → Step P ρ R st.heap w R' st'.heap w' st'.low st.next st'.next → Q .normal a' w') : (Code.region id ops false).wpIn F 0 P Q a w := by
  refine wpIn_region ?_
  have := regFrom hF (ops := ops) 0 (by simpa using hc) h t gl iv hf hcd hQ
  rw [List.range_eq_range']
  simpa using this
theorem opValue (hF : Wide F) {ops : Array Oper} {o : Oper} {i : Nat} {rest : List Nat} (ho : ops[i]? = some o) (hg : o.guard = none) (hd : ∀ c, o.op ≠ .defer c) {v : Value} {w' : World} (hr : (execOp a.eval o).run P w = .ok (.value v) w')
    (h : wpOpsIn F 0 P ops Q rest (a.put o.dst v) w') : wpOpsIn F 0 P ops Q (i :: rest) a w := by
  simp only [wpOpsIn, ho]
  rw [show Region.wanted o (yielded ops a.tmps) = true by simp [Region.wanted, hg]]
  simp only [if_true]
  refine ⟨fun f _ => hF.fn f, ?_⟩
  rw [Oper.semAt_eq _ _ _ hd, hr, Oper.uponIn_value]
  exact h
noncomputable def st0 : St := { heap := .leaf, next := 100, low := 100, sc := [], tr := [] }
theorem iv0 : InvW P ρ R st0 w := ⟨inv_leaf, fun _ _ => rfl⟩
theorem conds0 : Conds ρ [] := fun _ h => by cases h
end
end Go.Ab
