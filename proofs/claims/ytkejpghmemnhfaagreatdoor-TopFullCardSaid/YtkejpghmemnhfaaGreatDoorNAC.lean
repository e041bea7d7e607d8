/- A part of the proof: AbO8, AbO9, AbOA, AbOB, AbM1, AbM2, AbM3, AbM4, AbM5, AbM6, AbM7, AbM8, AbM9, AbMA, AbMB, AbT1, AbT2, AbT3, AbT0, AbT4, AbT5, AbT6, AbT7, AbT8, AbT9, AbTA, AbTB, AbTC, AbTD. -/
import Derived.Test.YtkejpghmemnhfaaGreatDoorNAB
import Derived.Laws.RangeString
import Derived.Lib.UnsafeStr
import Derived.Laws.Append
import Derived.CallsIn
import Derived.OrdersIn
import Derived.RangeFuncLeaves

set_option linter.unusedVariables false
set_option linter.unusedSimpArgs false

namespace Go.Ab
section
variable {P : Program} {ρ : Nat → Int} {R : Inj} {E : T Unit} {σ : Sub} {N : Nat} {tm : T AV} {a : Act} {st st' : St} {v : AV} {call : CallV}
  {dst : Option Tmp} {ty : TypeId} {pos : String} {af : Array Edge} {g : Option (Nat × Bool)}
theorem retL_ok {o : Option AV} (h : retL st o = .ok (v, st')) : o = some v ∧ st' = st := by
  cases o with
  | none => cases h
  | some x => obtain ⟨rfl, rfl⟩ := ok_inj h; exact ⟨rfl, rfl⟩
theorem fieldAddr_ok (C : Ctx ρ R E σ N tm a) {s : TypeId} {x : Operand} {i : Nat} {co : CO} (hc : cOp P E σ ⟨dst, .fieldAddr s x i, ty, pos, af, g⟩ = some co) (h : evOp co tm st call = .ok (v, st')) :
    PureOK P ρ R a ⟨dst, .fieldAddr s x i, ty, pos, af, g⟩ st st' v := by
  simp only [cOp] at hc
  obtain ⟨u, hu, hc⟩ := bind_some hc
  cases u <;> simp only at hc <;> try (cases hc; done)
  case struct fs =>
    obtain ⟨f, hf, hc⟩ := bind_some hc
    obtain ⟨n, hn, hc⟩ := bind_some hc
    split at hc
    · rename_i hn0
      obtain ⟨cx, hx, hc⟩ := bind_some hc
      simp only [Option.some.injEq] at hc; subst hc
      have vx := C.opnd hx
      refine PureOK.of_val (s := Instr.fieldAt s (a.eval x) i) rfl ?_
      generalize a.eval x = cv at vx
      simp only [evOp, opFieldAddr, evAK_eq] at h
      generalize evA tm cx = X at vx h
      cases vx <;> simp only at h <;> try (cases h; done)
      case ptr id off l hR =>
        simp only [forceN_eq] at h
        obtain ⟨rfl, rfl⟩ := ok_inj h
        refine ⟨rfl, .pointer (some ⟨l.b, l.base + (off + f.offset), none⟩), fun w => ?_, .ptr _ _ _ hR⟩
        simp only [Instr.fieldAt, Sem.run_bind, run_und hu, Result.andThen_ok, hf, Instr.sureAddr, Sem.run_pure, fieldPlace, run_size hn, Sem.run_ite, if_neg hn0, addr_add]
        rw [Nat.add_assoc]
    · cases hc
theorem field_ok (C : Ctx ρ R E σ N tm a) {s : TypeId} {x : Operand} {i : Nat} {co : CO} (hc : cOp P E σ ⟨dst, .field s x i, ty, pos, af, g⟩ = some co) (h : evOp co tm st call = .ok (v, st')) :
    PureOK P ρ R a ⟨dst, .field s x i, ty, pos, af, g⟩ st st' v := by
  simp only [cOp] at hc
  obtain ⟨u, hu, hc⟩ := bind_some hc
  cases u <;> simp only at hc <;> try (cases hc; done)
  case struct fs =>
    obtain ⟨f, hf, hc⟩ := bind_some hc
    obtain ⟨n, hn, hc⟩ := bind_some hc
    obtain ⟨cx, hx, hc⟩ := bind_some hc
    simp only [Option.some.injEq] at hc; subst hc
    have vx := C.opnd hx
    refine PureOK.of_val (s := Instr.field s (a.eval x) i) rfl ?_
    generalize a.eval x = cv at vx
    simp only [evOp, opField, evAK_eq] at h
    generalize evA tm cx = X at vx h
    cases vx <;> simp only at h <;> try (cases h; done)
    case agg l cs hl =>
      obtain ⟨hp, rfl⟩ := retL_ok h
      obtain ⟨cv, hr, hv⟩ := partOf_ok hl hp hn
      exact ⟨rfl, cv, fun w => by simp [Instr.field, run_und hu, hf, asAgg, hr w], hv⟩
theorem idxAddr_ok (C : Ctx ρ R E σ N tm a) {t : TypeId} {x i : Operand} {co : CO} (hc : cOp P E σ ⟨dst, .indexAddr t x i, ty, pos, af, g⟩ = some co) (h : evOp co tm st call = .ok (v, st')) :
    PureOK P ρ R a ⟨dst, .indexAddr t x i, ty, pos, af, g⟩ st st' v := by
  simp only [cOp] at hc
  obtain ⟨u, hu, hc⟩ := bind_some hc
  cases u <;> simp only at hc <;> try (cases hc; done)
  case array len e =>
    obtain ⟨n, hn, hc⟩ := bind_some hc
    obtain ⟨cx, hx, hc⟩ := bind_some hc
    obtain ⟨ci, hi, hc⟩ := bind_some hc
    simp only [Option.some.injEq] at hc; subst hc
    have vx := C.opnd hx
    have vi := C.opnd hi
    refine PureOK.of_val (s := Instr.indexAt t (a.eval x) (a.eval i)) rfl ?_
    generalize a.eval x = cv at vx
    generalize a.eval i = cj at vi
    simp only [evOp, opIdxAddrArr, evAK_eq] at h
    generalize evA tm cx = X at vx h
    generalize evA tm ci = I at vi h
    cases vx <;> simp only at h <;> try (cases h; done)
    case ptr id off l hR =>
      cases vi <;> (try simp only at h) <;> try (cases h; done)
      case int k m =>
        cases m with
        | negSucc m => simp only at h; cases h
        | ofNat m =>
          simp only at h
          split at h
          · rename_i hb
            have hb := blt_true hb
            simp only [forceN_eq] at h
            obtain ⟨rfl, rfl⟩ := ok_inj h
            refine ⟨rfl, .pointer (some ⟨l.b, l.base + (off + m * n), none⟩), fun w => ?_, .ptr _ _ _ hR⟩
            have hc' : (0 : Int) ≤ Int.ofNat m ∧ (Int.ofNat m) < (len : Int) := ⟨by simp, by simp; exact hb⟩
            simp only [Instr.indexAt, asIntOf, Sem.run_bind, Sem.run_pure, Result.andThen_ok, run_und hu, Instr.sureAddr, run_size hn]
            rw [if_pos hc']
            simp only [Sem.run_bind, run_size hn, Result.andThen_ok, Sem.run_pure, addr_add]
            rw [Nat.add_assoc]; rfl
          · cases h
  case slice e =>
    obtain ⟨n, hn, hc⟩ := bind_some hc
    obtain ⟨cx, hx, hc⟩ := bind_some hc
    obtain ⟨ci, hi, hc⟩ := bind_some hc
    simp only [Option.some.injEq] at hc; subst hc
    have vx := C.opnd hx
    have vi := C.opnd hi
    refine PureOK.of_val (s := Instr.indexAt t (a.eval x) (a.eval i)) rfl ?_
    generalize a.eval x = cv at vx
    generalize a.eval i = cj at vi
    simp only [evOp, opIdxAddrSl, evAK_eq] at h
    generalize evA tm cx = X at vx h
    generalize evA tm ci = I at vi h
    cases vx <;> simp only at h <;> try (cases h; done)
    case slice id off len cap ex es l ad K hR ha hl hcp hex hroom =>
      cases vi <;> (try simp only at h) <;> try (cases h; done)
      case int k m =>
        cases m with
        | negSucc m => simp only at h; cases h
        | ofNat m =>
          simp only at h
          split at h
          · rename_i hb
            simp only [Bool.and_eq_true] at hb
            have hb1 := blt_true hb.1
            simp only [forceN_eq] at h
            obtain ⟨rfl, rfl⟩ := ok_inj h
            refine ⟨rfl, .pointer (some ⟨l.b, l.base + (off + m * n), none⟩), fun w => ?_, .ptr _ _ _ hR⟩
            have hc' : (0 : Int) ≤ Int.ofNat m ∧ (Int.ofNat m) < (len : Int) := ⟨by simp, by simp; exact hb1⟩
            have had : ad = ⟨l.b, l.base + off, none⟩ := ha.resolve_left (by omega)
            subst had
            simp only [Instr.indexAt, asIntOf, Sem.run_bind, Sem.run_pure, Result.andThen_ok, run_und hu]
            rw [if_pos hc']
            simp only [Sem.run_bind, run_size hn, Result.andThen_ok, Sem.run_pure, addr_add]
            rw [Nat.add_assoc]; rfl
          · cases h
theorem idx_ok (C : Ctx ρ R E σ N tm a) {t : TypeId} {x i : Operand} {co : CO} (hc : cOp P E σ ⟨dst, .index t x i, ty, pos, af, g⟩ = some co) (h : evOp co tm st call = .ok (v, st')) :
    PureOK P ρ R a ⟨dst, .index t x i, ty, pos, af, g⟩ st st' v := by
  simp only [cOp] at hc
  obtain ⟨u, hu, hc⟩ := bind_some hc
  cases u <;> simp only at hc <;> try (cases hc; done)
  case array len e =>
    obtain ⟨n, hn, hc⟩ := bind_some hc
    obtain ⟨o, ho, hc⟩ := bind_some hc
    obtain ⟨cx, hx, hc⟩ := bind_some hc
    obtain ⟨ci, hi, hc⟩ := bind_some hc
    simp only [Option.some.injEq] at hc; subst hc
    have vx := C.opnd hx
    have vi := C.opnd hi
    refine PureOK.of_val (s := Instr.index t (a.eval x) (a.eval i)) rfl ?_
    generalize a.eval x = cv at vx
    generalize a.eval i = cj at vi
    simp only [evOp, opIdxArr, evAK_eq] at h
    generalize evA tm cx = X at vx h
    generalize evA tm ci = I at vi h
    cases vx <;> simp only at h <;> try (cases h; done)
    case agg l cs hl =>
      cases vi <;> (try simp only at h) <;> try (cases h; done)
      case int k m =>
        cases m with
        | negSucc m => simp only at h; cases h
        | ofNat m =>
          simp only at h
          split at h
          · rename_i hb
            have hb := blt_true hb
            obtain ⟨hp, rfl⟩ := retL_ok h
            obtain ⟨cv, hr, hv⟩ := partOf_ok hl hp ho
            refine ⟨rfl, cv, fun w => ?_, hv⟩
            have hc' : (0 : Int) ≤ Int.ofNat m ∧ (Int.ofNat m) < (len : Int) := ⟨by simp, by simp; exact hb⟩
            simp only [Instr.index, asIntOf, Sem.run_bind, Sem.run_pure, Result.andThen_ok, run_und hu]
            rw [if_pos hc']
            simp only [Sem.run_bind, run_size hn, Result.andThen_ok]
            exact hr w
          · cases h
  case string =>
    obtain ⟨cx, hx, hc⟩ := bind_some hc
    obtain ⟨ci, hi, hc⟩ := bind_some hc
    simp only [Option.some.injEq] at hc; subst hc
    have vx := C.opnd hx
    have vi := C.opnd hi
    refine PureOK.of_val (s := Instr.index t (a.eval x) (a.eval i)) rfl ?_
    generalize a.eval x = cv at vx
    generalize a.eval i = cj at vi
    simp only [evOp, opIdxStr, evAK_eq] at h
    generalize evA tm cx = X at vx h
    generalize evA tm ci = I at vi h
    cases vx <;> simp only at h <;> try (cases h; done)
    case str n b s hs hb' =>
      cases vi <;> (try simp only at h) <;> try (cases h; done)
      case int k m =>
        cases m with
        | negSucc m => simp only at h; cases h
        | ofNat m =>
          simp only at h
          split at h
          · rename_i hb
            have hb := blt_true hb
            simp only [forceN_eq] at h
            obtain ⟨rfl, rfl⟩ := ok_inj h
            have hsz := size_of hs
            have hget : s[m]? = some (UInt8.ofNat (byteAt b m)) := by
              have e : s.data.toList[m]? = some (UInt8.ofNat (byteAt b m)) := by rw [hs]; exact unpack_get n b m hb
              have hm : m < s.size := by omega
              rw [getElem?_pos s m hm]
              have e2 : s.data.toList[m]? = some (s.data[m]'hm) := by simp
              rw [e2] at e
              exact e
            refine ⟨rfl, .int .u8 (UInt8.ofNat (byteAt b m)).toNat, fun w => ?_, ?_⟩
            · simp only [Instr.index, asIntOf, Sem.run_bind, Sem.run_pure, Result.andThen_ok, run_und hu]
              rw [if_pos (by simp), show (Int.ofNat m).toNat = m from rfl, hget]; rfl
            · have e : (UInt8.ofNat (byteAt b m)).toNat = byteAt b m := by
                have := byteAt_lt b m
                simp; omega
              rw [e]; exact .int _ _
          · cases h
theorem extract_ok (C : Ctx ρ R E σ N tm a) {x : Operand} {i : Nat} {cx : CA} (hx : cOpnd E σ x = some cx) (h : evOp (.extract i cx) tm st call = .ok (v, st')) :
    PureOK P ρ R a ⟨dst, .extract x i, ty, pos, af, g⟩ st st' v := by
  have vx := C.opnd hx
  refine PureOK.of_val (s := Instr.extract (a.eval x) i) rfl ?_
  generalize a.eval x = cv at vx
  simp only [evOp, opExtract, evAK_eq] at h
  generalize evA tm cx = X at vx h
  cases vx <;> simp only at h <;> try (cases h; done)
  case tuple l cs hl =>
    have hdrop : ∀ (k : Nat) (l : List AV), dropL k l = l.drop k := by
      intro k; induction k with
      | zero => intro l; rfl
      | succ k ih => intro l; cases l with
        | nil => rfl
        | cons x l => simpa [dropL] using ih l
    rw [hdrop] at h
    cases hd : l.drop i with
    | nil => rw [hd] at h; cases h
    | cons y l' =>
      rw [hd] at h; simp only at h
      obtain ⟨rfl, rfl⟩ := ok_inj h
      have hy : l[i]? = some y := by
        have := congrArg (fun l => l[0]?) hd
        simpa using this
      obtain ⟨cv, e, r⟩ := hl.get hy
      have e' : cs[i]? = some cv := by simpa using e
      exact ⟨rfl, cv, fun w => by simp [Instr.extract, e'], r⟩
theorem tyAssert_ok (C : Ctx ρ R E σ N tm a) {x : Operand} {t t' : TypeId} {ok : Bool} {co : CO} (hc : cOp P E σ ⟨dst, .typeAssert x t' t ok, ty, pos, af, g⟩ = some co) (h : evOp co tm st call = .ok (v, st')) :
    PureOK P ρ R a ⟨dst, .typeAssert x t' t ok, ty, pos, af, g⟩ st st' v := by
  simp only [cOp] at hc
  obtain ⟨u, hu, hc⟩ := bind_some hc
  have hc' : (∀ ms, u ≠ .interface ms) ∧ ∃ cx, cOpnd E σ x = some cx ∧ co = .tyAssert t ok cx := by
    cases u <;> simp only at hc <;> first
      | (cases hc; done)
      | (obtain ⟨cx, hx, hc⟩ := bind_some hc
         simp only [Option.some.injEq] at hc
         exact ⟨(fun ms c => by cases c), cx, hx, hc.symm⟩)
  obtain ⟨hni, cx, hx, rfl⟩ := hc'
  have vx := C.opnd hx
  refine PureOK.of_val (s := Instr.typeAssert (a.eval x) t' t ok) rfl ?_
  generalize a.eval x = cv at vx
  simp only [evOp, opTyAssert, evAK_eq] at h
  generalize evA tm cx = X at vx h
  cases vx <;> simp only at h <;> try (cases h; done)
  case iface s y cy hy =>
    split at h
    · rename_i hb
      have hb := beq_true hb; subst hb
      obtain ⟨rfl, rfl⟩ := ok_inj h
      refine ⟨rfl, (if ok then .tuple #[cy, .bool true] else cy), fun w => ?_, ?_⟩
      · simp only [Instr.typeAssert, Sem.run_bind, run_und hu, Result.andThen_ok]
        cases u <;> first
          | (exact absurd rfl (hni _))
          | (simp; done)
          | simp
      · cases ok
        · exact hy
        · exact .tuple _ _ (.cons _ _ _ _ hy (.cons _ _ _ _ (.bool true) .nil))
    · cases h
theorem mkIface_ok (C : Ctx ρ R E σ N tm a) {x : Operand} {t : TypeId} {co : CO} (hc : cOp P E σ ⟨dst, .makeInterface t x, ty, pos, af, g⟩ = some co) (h : evOp co tm st call = .ok (v, st')) :
    PureOK P ρ R a ⟨dst, .makeInterface t x, ty, pos, af, g⟩ st st' v := by
  simp only [cOp] at hc
  obtain ⟨u, hu, hc⟩ := bind_some hc
  have hc' : (∀ ms, u ≠ .interface ms) ∧ ∃ cx, cOpnd E σ x = some cx ∧ co = .mkIface t cx := by
    cases u <;> simp only at hc <;> first
      | (cases hc; done)
      | (obtain ⟨cx, hx, hc⟩ := bind_some hc
         simp only [Option.some.injEq] at hc
         exact ⟨(fun ms c => by cases c), cx, hx, hc.symm⟩)
  obtain ⟨hni, cx, hx, rfl⟩ := hc'
  have vx := C.opnd hx
  refine PureOK.of_val (s := Instr.makeInterface t (a.eval x)) rfl ?_
  simp only [evOp, opMkIface, evAK_eq] at h
  obtain ⟨rfl, rfl⟩ := ok_inj h
  refine ⟨rfl, .iface t (a.eval x), fun w => ?_, .iface _ _ _ vx⟩
  simp only [Instr.makeInterface, Sem.run_bind, run_und hu, Result.andThen_ok]
  cases u <;> first
    | (exact absurd rfl (hni _))
    | rfl
theorem mkFunc_ok (C : Ctx ρ R E σ N tm a) {f : Nat} {x y : Array Operand} {cx cy : List CA} (hx : cOpnds E σ x = some cx) (hy : cOpnds E σ y = some cy) (h : evOp (.mkFunc f cx cy) tm st call = .ok (v, st')) :
    PureOK P ρ R a ⟨dst, .makeFunc (.func f) x y, ty, pos, af, g⟩ st st' v := by
  simp only [evOp, opMkFunc, evAsK_eq] at h
  obtain ⟨rfl, rfl⟩ := ok_inj h
  refine PureOK.of_val (s := Instr.makeFunc (.func f) (x.map a.eval) (y.map a.eval)) rfl ?_
  refine ⟨rfl, _, fun w => rfl, .func _ _ _ _ _ ?_ ?_⟩
  · simpa using C.opnds hx
  · simpa using C.opnds hy
end
end Go.Ab

namespace Go.Ab
section
variable {P : Program} {ρ : Nat → Int} {R : Inj} {E : T Unit} {σ : Sub} {N : Nat} {tm : T AV} {a : Act} {st st' : St} {v : AV} {call : CallV}
  {dst : Option Tmp} {ty : TypeId} {pos : String} {af : Array Edge} {g : Option (Nat × Bool)}
theorem setList_eq {α : Type} (l : List α) (i : Nat) (x : α) : setList l i x = l.set i x := by
  induction l generalizing i with
  | nil => rfl
  | cons y l ih => cases i <;> simp [setList, ih]
theorem lenL_eq {α : Type} (l : List α) : lenL l = l.length := by
  induction l with
  | nil => rfl
  | cons y l ih => simp [lenL, ih]
theorem VRs.set {l : List AV} {m : List Value} (h : VRs ρ R l m) (i : Nat) {x : AV} {y : Value} (hx : VR ρ R x y) : VRs ρ R (l.set i x) (m.set i y) := by
  induction l generalizing m i with
  | nil => cases h; simpa using VRs.nil
  | cons b l ih =>
    cases h with
    | cons _ w _ m h hs =>
      cases i with
      | zero => exact .cons _ _ _ _ hx hs
      | succ i => exact .cons _ _ _ _ h (ih hs i)
theorem lay_ok {vs : List AV} {cvs : List Value} (h : VRs ρ R vs cvs) (cs : List AV) (ccs : Array Value) (hc : VRs ρ R cs ccs.toList) (off k : Nat) :
    VRs ρ R (layCells cs (off + k) vs) ((cvs.zipIdx k).foldl (fun (c : Array Value) (p : Value × Nat) => c.setIfInBounds (off + p.2) p.1) ccs).toList := by
  induction vs generalizing cvs cs ccs k with
  | nil => cases h; exact hc
  | cons x l ih =>
    cases h with
    | cons _ y _ m h hs =>
      simp only [layCells, List.zipIdx_cons, List.foldl_cons]
      rw [setList_eq]
      have := ih hs (cs.set (off + k) x) (ccs.setIfInBounds (off + k) y) (by rw [Array.toList_setIfInBounds]; exact hc.set _ h) (k + 1)
      rw [Nat.add_assoc] at *
      exact this
theorem fill_ok (C : Ctx ρ R E σ N tm a) {place : Nat → Option (Nat × Nat)} {parts : List (Nat × Operand)} {cp : List (Nat × Nat × CA)} (hp : cParts E σ place parts = some cp) {cs : List AV} {ccs : Array Value} (hc : VRs ρ R cs ccs.toList) {r : List AV}
    (h : fillParts tm cs cp = some r) : ∃ cr, Instr.fill place ccs (parts.map fun p => (p.1, a.eval p.2)) = some cr ∧ VRs ρ R r cr.toList := by
  induction parts generalizing cp cs ccs with
  | nil =>
    simp only [cParts, Option.some.injEq] at hp; subst hp
    simp only [fillParts, Option.some.injEq] at h; subst h
    exact ⟨ccs, rfl, hc⟩
  | cons q l ih =>
    obtain ⟨i, x⟩ := q
    simp only [cParts] at hp
    obtain ⟨⟨off, size⟩, hpl, hp⟩ := bind_some hp
    obtain ⟨cx, hx, hp⟩ := bind_some hp
    obtain ⟨r', hr, hp⟩ := bind_some hp
    simp only [Option.some.injEq] at hp; subst hp
    simp only [fillParts] at h
    split at h
    · rename_i hb
      simp only [Bool.and_eq_true] at hb
      have h1 := beq_true hb.1
      have h2 := ble_true hb.2
      rw [lenL_eq] at h1 h2
      have vc := (C.opnd hx).cells
      have l1 := vc.length
      have l2 := hc.length
      simp only [Array.length_toList] at l1 l2
      have lay := lay_ok vc cs ccs hc off 0
      simp only [Nat.add_zero] at lay
      obtain ⟨cr, e, hv⟩ := ih hr lay h
      refine ⟨cr, ?_, hv⟩
      simp only [List.map_cons, Instr.fill, hpl]
      rw [if_neg (by simp; omega)]
      have e2 : Array.foldl (fun (cs : Array Value) (x : Value × Nat) => cs.setIfInBounds (off + x.2) x.1) ccs (a.eval x).cells.zipIdx = ((a.eval x).cells.toList.zipIdx 0).foldl (fun (c : Array Value) (p : Value × Nat) => c.setIfInBounds (off + p.2) p.1) ccs := by
        rw [← Array.foldl_toList, Array.toList_zipIdx]
      rw [← e2] at e
      exact e
    · cases h
theorem build_ok (C : Ctx ρ R E σ N tm a) {t : TypeId} {parts : Array (Nat × Operand)} {co : CO} (hc : cBuild P E σ t parts = some co) (h : evOp co tm st call = .ok (v, st')) :
    PureOK P ρ R a ⟨dst, .build t parts, ty, pos, af, g⟩ st st' v := by
  unfold cBuild at hc
  obtain ⟨z, hz, hc⟩ := bind_some hc
  obtain ⟨u, hu, hc⟩ := bind_some hc
  obtain ⟨i, zv, hi, hzv, hcv⟩ := zeroOf_some hz
  have vz : VRs ρ R z.cells zv.cells.toList := (cVal_ok 4 hcv).cells
  have hzero : ∀ w, (zeroValue t).run P w = .ok zv w := fun w => by simp [zeroValue, run_info hi, hzv]
  refine PureOK.of_val (s := Instr.build t (parts.map fun (i, x) => (i, a.eval x))) rfl ?_
  cases u <;> simp only at hc <;> try (cases hc; done)
  case struct fs =>
    obtain ⟨places, hpl, hc⟩ := bind_some hc
    obtain ⟨l, hl, hc⟩ := bind_some hc
    simp only [Option.some.injEq] at hc; subst hc
    simp only [evOp, opBuild] at h
    cases hf : fillParts tm z.cells l with
    | none => rw [hf] at h; cases h
    | some r =>
      rw [hf] at h; simp only at h
      obtain ⟨rfl, rfl⟩ := ok_inj h
      obtain ⟨cr, e, hv⟩ := fill_ok C hl vz hf
      have hpl' : ∀ w, (fs.mapM (fun f => do pure (f.offset, ← sizeOf f.type) : Field → Sem (Nat × Nat))).run P w = .ok places.toArray w := by
        intro w
        have : ∀ (l : List Field) (r : List (Nat × Nat)), mapO (fun (f : Field) => (do some (f.offset, ← sizeOfT P f.type) : Option (Nat × Nat))) l = some r → (l.mapM (fun f => Prod.mk f.offset <$> sizeOf f.type : Field → Sem (Nat × Nat))).run P w = .ok r w := by
          intro l
          induction l with
          | nil => intro r hr; simp only [mapO, Option.some.injEq] at hr; subst hr; simp
          | cons f l ih =>
            intro r hr
            simp only [mapO] at hr
            cases hs : sizeOfT P f.type with
            | none => rw [hs] at hr; cases hr
            | some n =>
              rw [hs] at hr; simp only [Option.bind_eq_bind, Option.bind_some] at hr
              cases hm : mapO (fun (f : Field) => (sizeOfT P f.type).bind fun n => some (f.offset, n)) l with
              | none => rw [hm] at hr; cases hr
              | some r' =>
                rw [hm] at hr; simp only [Option.some.injEq] at hr; subst hr
                rw [List.mapM_cons]
                simp [run_size hs, ih r' hm]
        rw [Array.mapM_eq_mapM_toList]
        simp [this _ _ hpl]
      refine ⟨rfl, .agg cr, fun w => ?_, .agg _ _ hv⟩
      simp only [Instr.build, Sem.run_bind, hzero, Result.andThen_ok, run_und hu, Sem.run_pure, hpl' w]
      have e' : Instr.fill (fun i => places.toArray[i]?) zv.cells (parts.map fun (i, x) => (i, a.eval x)).toList = some cr := by
        rw [Array.toList_map]
        simpa using e
      rw [e']; rfl
  case array len e =>
    obtain ⟨n, hn, hc⟩ := bind_some hc
    obtain ⟨l, hl, hc⟩ := bind_some hc
    simp only [Option.some.injEq] at hc; subst hc
    simp only [evOp, opBuild] at h
    cases hf : fillParts tm z.cells l with
    | none => rw [hf] at h; cases h
    | some r =>
      rw [hf] at h; simp only at h
      obtain ⟨rfl, rfl⟩ := ok_inj h
      obtain ⟨cr, e', hv⟩ := fill_ok C hl vz hf
      refine ⟨rfl, .agg cr, fun w => ?_, .agg _ _ hv⟩
      simp only [Instr.build, Sem.run_bind, hzero, Result.andThen_ok, run_und hu, run_size hn, Sem.run_pure]
      have e'' : Instr.fill (fun i => some (i * n, n)) zv.cells (parts.map fun (i, x) => (i, a.eval x)).toList = some cr := by
        rw [Array.toList_map]
        exact e'
      rw [e'']; rfl
end
end Go.Ab

namespace Go.Ab
section
variable {P : Program} {ρ : Nat → Int} {R : Inj} {E : T Unit} {σ : Sub} {N : Nat} {tm : T AV} {a : Act} {st st' : St} {v : AV} {call : CallV}
  {dst : Option Tmp} {ty : TypeId} {pos : String} {af : Array Edge} {g : Option (Nat × Bool)}
theorem run_builtin (b : Builtin) (argTypes : Array TypeId) (args : Array Operand) (w : World) :
    (execOp a.eval ⟨dst, .call { callee := .builtin b, args := args, argTypes := argTypes }, ty, pos, af, g⟩).run P w =
      (builtin b argTypes ty (args.map fun | .const _ => true | _ => false) (args.map a.eval)).run P w := rfl
theorem args1 {args : Array Operand} {x : CA} (h : cOpnds E σ args = some [x]) : ∃ y, args = #[y] ∧ cOpnd E σ y = some x := by
  obtain ⟨l⟩ := args
  simp only [cOpnds] at h
  cases l with
  | nil => simp [mapO] at h
  | cons y l =>
    simp only [mapO] at h
    cases hy : cOpnd E σ y with
    | none => rw [hy] at h; cases h
    | some c =>
      rw [hy] at h; simp only at h
      cases hl : mapO (cOpnd E σ) l with
      | none => rw [hl] at h; cases h
      | some r =>
        rw [hl] at h; simp only [Option.some.injEq, List.cons.injEq] at h
        obtain ⟨rfl, rfl⟩ := h
        cases l with
        | nil => exact ⟨y, rfl, hy⟩
        | cons z l =>
          simp only [mapO] at hl
          cases hz : cOpnd E σ z with
          | none => rw [hz] at hl; cases hl
          | some c =>
            rw [hz] at hl; simp only at hl
            cases hm : mapO (cOpnd E σ) l with
            | none => rw [hm] at hl; cases hl
            | some r => rw [hm] at hl; simp at hl
theorem args2 {args : Array Operand} {x x' : CA} (h : cOpnds E σ args = some [x, x']) : ∃ y y', args = #[y, y'] ∧ cOpnd E σ y = some x ∧ cOpnd E σ y' = some x' := by
  obtain ⟨l⟩ := args
  simp only [cOpnds] at h
  cases l with
  | nil => simp [mapO] at h
  | cons y l =>
    simp only [mapO] at h
    cases hy : cOpnd E σ y with
    | none => rw [hy] at h; cases h
    | some c =>
      rw [hy] at h; simp only at h
      cases hl : mapO (cOpnd E σ) l with
      | none => rw [hl] at h; cases h
      | some r =>
        rw [hl] at h; simp only [Option.some.injEq, List.cons.injEq] at h
        obtain ⟨rfl, rfl⟩ := h
        obtain ⟨y', e, hy'⟩ := args1 (args := ⟨l⟩) (E := E) (σ := σ) (x := x') hl
        injection e with e
        subst e
        exact ⟨y, y', rfl, hy, hy'⟩
theorem minmax_ok (lt : Bool) {k : IntKind} {n : Int} {l : List AV} {m : List Value} (hl : VRs ρ R l m) (h : minmax lt st (.int k n) l = .ok (v, st')) :
    st' = st ∧ ∃ r, v = .int k r ∧ ∀ w, (m.foldlM (if lt then Builtin.min2 else Builtin.max2) (.int k n)).run P w = .ok (.int k r) w := by
  induction l generalizing m n with
  | nil =>
    cases hl
    simp only [minmax] at h
    obtain ⟨rfl, rfl⟩ := ok_inj h
    exact ⟨rfl, n, rfl, fun w => by simp⟩
  | cons y l ih =>
    cases hl with
    | cons _ cy _ m hy hs =>
      cases hy <;> simp only [minmax] at h <;> try (cases h; done)
      case int j b =>
        split at h
        · rename_i hk
          have hk := keq_true hk; subst hk
          cases lt with
          | true =>
            simp only [ilt_eq] at h
            by_cases hb : b < n
            · simp only [hb, decide_true] at h
              obtain ⟨e, r, e', hr⟩ := ih hs h
              exact ⟨e, r, e', fun w => by simpa [Builtin.min2, hb] using hr w⟩
            · simp only [hb, decide_false] at h
              obtain ⟨e, r, e', hr⟩ := ih hs h
              exact ⟨e, r, e', fun w => by simpa [Builtin.min2, hb] using hr w⟩
          | false =>
            simp only [ilt_eq] at h
            by_cases hb : n < b
            · simp only [hb, decide_true] at h
              obtain ⟨e, r, e', hr⟩ := ih hs h
              exact ⟨e, r, e', fun w => by simpa [Builtin.max2, hb] using hr w⟩
            · simp only [hb, decide_false] at h
              obtain ⟨e, r, e', hr⟩ := ih hs h
              exact ⟨e, r, e', fun w => by simpa [Builtin.max2, hb] using hr w⟩
        · cases h
def constQ : Operand → Bool := fun | .const _ => true | _ => false
theorem cBuiltin_pure (C : Ctx ρ R E σ N tm a) {b : Builtin} {argTypes : Array TypeId} {args : Array Operand} {ca : List CA} (ha : cOpnds E σ args = some ca) {co : CO} (hc : cBuiltin P b argTypes ca = some co) (hcl : opClass co = 0) (h : evOp co tm st call = .ok (v, st')) :
    st' = st ∧ ∃ cv, (∀ w q, (builtin b argTypes ty q (args.map a.eval)).run P w = .ok (.value cv) w) ∧ VR ρ R v cv := by
  unfold cBuiltin at hc
  split at hc <;> try (cases hc; done)
  ·
    obtain ⟨t, ht, hc⟩ := bind_some hc
    obtain ⟨u, hu, hc⟩ := bind_some hc
    obtain ⟨ut, hut, hc⟩ := bind_some hc
    obtain ⟨uu, huu, hc⟩ := bind_some hc
    split at hc <;> try (cases hc; done)
    obtain ⟨_, _, hc⟩ := bind_some hc
    obtain ⟨_, _, hc⟩ := bind_some hc
    obtain ⟨_, _, hc⟩ := bind_some hc
    split at hc
    · simp only [Option.some.injEq] at hc; subst hc; simp [opClass] at hcl
    · cases hc
  ·
    obtain ⟨y, rfl, hy⟩ := args1 ha
    obtain ⟨t, ht, hc⟩ := bind_some hc
    obtain ⟨u, hu, hc⟩ := bind_some hc
    have vx := C.opnd hy
    have fin : ∀ cv, (∀ w, (Builtin.len_ argTypes ty #[a.eval y]).run P w = .ok cv w) → VR ρ R v cv → ∃ cv, (∀ w q, (builtin .len argTypes ty q (#[y].map a.eval)).run P w = .ok (.value cv) w) ∧ VR ρ R v cv := by
      intro cv h1 h2
      exact ⟨cv, fun w q => by simp [builtin, h1 w], h2⟩
    generalize a.eval y = cv at vx fin
    cases u <;> simp only at hc <;> try (cases hc; done)
    case string =>
      simp only [Option.some.injEq] at hc; subst hc
      simp only [evOp, opLenStr, evAK_eq] at h
      generalize evA tm _ = X at vx h
      cases vx <;> simp only at h <;> try (cases h; done)
      case str n b s hs hb =>
        obtain ⟨rfl, rfl⟩ := ok_inj h
        refine ⟨rfl, fin (.int .i64 n) (fun w => ?_) (.int _ _)⟩
        simp [Builtin.len_, ht, run_und hu, goInt, size_of hs]
    case slice e =>
      simp only [Option.some.injEq] at hc; subst hc
      simp only [evOp, opLenSl, evAK_eq] at h
      generalize evA tm _ = X at vx h
      cases vx <;> simp only at h <;> try (cases h; done)
      · obtain ⟨rfl, rfl⟩ := ok_inj h
        exact ⟨rfl, fin (.int .i64 0) (fun w => by simp [Builtin.len_, ht, run_und hu, goInt]) (.int _ _)⟩
      · rename_i id off len cap ex esz l ad K _ _ _ _ _ _
        obtain ⟨rfl, rfl⟩ := ok_inj h
        exact ⟨rfl, fin (.int .i64 len) (fun w => by simp [Builtin.len_, ht, run_und hu, goInt]) (.int _ _)⟩
    case map k e => simp only [Option.some.injEq] at hc; subst hc; simp [opClass] at hcl
    case array n e =>
      simp only [Option.some.injEq] at hc; subst hc
      simp only [evOp, opLenArr] at h
      obtain ⟨rfl, rfl⟩ := ok_inj h
      exact ⟨rfl, fin (.int .i64 n) (fun w => by simp [Builtin.len_, ht, run_und hu, goInt]) (.int _ _)⟩
    case pointer ar =>
      obtain ⟨u', hu', hc⟩ := bind_some hc
      cases u' <;> simp only at hc <;> try (cases hc; done)
      case array n e =>
      simp only [Option.some.injEq] at hc; subst hc
      simp only [evOp, opLenArr] at h
      obtain ⟨rfl, rfl⟩ := ok_inj h
      exact ⟨rfl, fin (.int .i64 n) (fun w => by simp [Builtin.len_, ht, run_und hu, run_und hu', goInt]) (.int _ _)⟩
  ·
    obtain ⟨y, rfl, hy⟩ := args1 ha
    obtain ⟨t, ht, hc⟩ := bind_some hc
    obtain ⟨u, hu, hc⟩ := bind_some hc
    have vx := C.opnd hy
    have fin : ∀ cv, (∀ w, (Builtin.cap_ argTypes ty #[a.eval y]).run P w = .ok cv w) → VR ρ R v cv → ∃ cv, (∀ w q, (builtin .cap argTypes ty q (#[y].map a.eval)).run P w = .ok (.value cv) w) ∧ VR ρ R v cv := by
      intro cv h1 h2
      exact ⟨cv, fun w q => by simp [builtin, h1 w], h2⟩
    generalize a.eval y = cv at vx fin
    cases u <;> simp only at hc <;> try (cases hc; done)
    case slice e =>
      simp only [Option.some.injEq] at hc; subst hc
      simp only [evOp, opCapSl, evAK_eq] at h
      generalize evA tm _ = X at vx h
      cases vx <;> (try simp only at h) <;> try (cases h; done)
      · obtain ⟨rfl, rfl⟩ := ok_inj h
        exact ⟨rfl, fin (.int .i64 0) (fun w => by simp [Builtin.cap_, ht, run_und hu, goInt]) (.int _ _)⟩
      · rename_i id off len cap ex esz l ad K _ _ _ _ hx _
        cases ex with
        | false => simp only at h; cases h
        | true =>
          simp only at h
          obtain ⟨rfl, rfl⟩ := ok_inj h
          have := hx rfl; subst this
          exact ⟨rfl, fin (.int .i64 K) (fun w => by simp [Builtin.cap_, ht, run_und hu, goInt]) (.int _ _)⟩
  ·
    obtain ⟨t, ht, hc⟩ := bind_some hc
    obtain ⟨u, hu, hc⟩ := bind_some hc
    split at hc <;> try (cases hc; done)
    obtain ⟨_, _, hc⟩ := bind_some hc
    simp only [Option.some.injEq] at hc; subst hc; simp [opClass] at hcl
  ·
    obtain ⟨t, ht, hc⟩ := bind_some hc
    obtain ⟨u, hu, hc⟩ := bind_some hc
    split at hc <;> try (cases hc; done)
    obtain ⟨_, _, hc⟩ := bind_some hc
    simp only [Option.some.injEq] at hc; subst hc; simp [opClass] at hcl
  ·
    obtain ⟨t, ht, hc⟩ := bind_some hc
    obtain ⟨u, hu, hc⟩ := bind_some hc
    split at hc <;> try (cases hc; done)
    · simp only [Option.some.injEq] at hc; subst hc; simp [opClass] at hcl
    · obtain ⟨_, _, hc⟩ := bind_some hc
      obtain ⟨_, _, hc⟩ := bind_some hc
      split at hc
      · simp only [Option.some.injEq] at hc; subst hc; simp [opClass] at hcl
      · cases hc
  ·
    simp only [Option.some.injEq] at hc; subst hc
    simp only [evOp, opMin, evAsK_eq] at h
    have vs := C.opnds (l := args.toList) ha
    cases hl : evAs tm ca with
    | nil => rw [hl] at h; cases h
    | cons x l =>
      rw [hl] at h vs; simp only at h
      cases hm : args.toList.map a.eval with
      | nil => rw [hm] at vs; cases vs
      | cons cx m =>
        rw [hm] at vs
        cases vs with
        | cons _ _ _ _ hx hs =>
          cases hx <;> simp only at h <;> try (cases h; done)
          case int k n =>
            obtain ⟨e, r, e', hr⟩ := minmax_ok true hs h
            refine ⟨e, .int k r, fun w q => ?_, by rw [e']; exact .int _ _⟩
            have : (args.map a.eval).toList = .int k n :: m := by rw [Array.toList_map]; exact hm
            simp only [builtin, Builtin.min_, this, Sem.run_bind]
            have := hr w
            simp only [if_true] at this
            rw [this]; rfl
  ·
    simp only [Option.some.injEq] at hc; subst hc
    simp only [evOp, opMax, evAsK_eq] at h
    have vs := C.opnds (l := args.toList) ha
    cases hl : evAs tm ca with
    | nil => rw [hl] at h; cases h
    | cons x l =>
      rw [hl] at h vs; simp only at h
      cases hm : args.toList.map a.eval with
      | nil => rw [hm] at vs; cases vs
      | cons cx m =>
        rw [hm] at vs
        cases vs with
        | cons _ _ _ _ hx hs =>
          cases hx <;> simp only at h <;> try (cases h; done)
          case int k n =>
            obtain ⟨e, r, e', hr⟩ := minmax_ok false hs h
            refine ⟨e, .int k r, fun w q => ?_, by rw [e']; exact .int _ _⟩
            have : (args.map a.eval).toList = .int k n :: m := by rw [Array.toList_map]; exact hm
            simp only [builtin, Builtin.max_, this, Sem.run_bind]
            have := hr w
            simp only [Bool.false_eq_true, if_false] at this
            rw [this]; rfl
  ·
    simp only [Option.some.injEq] at hc; subst hc
    obtain ⟨y, rfl, hy⟩ := args1 ha
    have vx := C.opnd hy
    simp only [evOp, opSliceData, evAK_eq] at h
    have fin : ∀ cv, (∀ w, (Builtin.unsafeSliceData_ argTypes ty #[a.eval y]).run P w = .ok cv w) → VR ρ R v cv → ∃ cv, (∀ w q, (builtin .unsafeSliceData argTypes ty q (#[y].map a.eval)).run P w = .ok (.value cv) w) ∧ VR ρ R v cv := by
      intro cv h1 h2
      exact ⟨cv, fun w q => by simp [builtin, h1 w], h2⟩
    generalize a.eval y = cv at vx fin
    generalize evA tm _ = X at vx h
    cases vx <;> (try simp only at h) <;> try (cases h; done)
    · obtain ⟨rfl, rfl⟩ := ok_inj h
      exact ⟨rfl, fin (.pointer none) (fun w => rfl) .nilptr⟩
    · rename_i id off len cap ex esz l ad K hR had hl hc hx hr
      cases cap with
      | zero => simp only at h; cases h
      | succ c =>
        simp only at h
        obtain ⟨rfl, rfl⟩ := ok_inj h
        have hK : K ≠ 0 := by omega
        have had := had.resolve_left hK
        subst had
        exact ⟨rfl, fin (.pointer (some ⟨l.b, l.base + off, none⟩)) (fun w => by show (ite (K ≠ 0) _ _ : Sem Value).run P w = _; rw [if_pos hK]; rfl) (.ptr _ _ _ hR)⟩
  ·
    obtain ⟨t, ht, hc⟩ := bind_some hc
    obtain ⟨u, hu, hc⟩ := bind_some hc
    split at hc <;> try (cases hc; done)
    obtain ⟨_, _, hc⟩ := bind_some hc
    split at hc <;> try (cases hc; done)
    obtain ⟨_, _, hc⟩ := bind_some hc
    split at hc <;> try (cases hc; done)
    simp only [Option.some.injEq] at hc; subst hc; simp [opClass] at hcl
end
end Go.Ab

namespace Go.Ab
section
variable {P : Program} {ρ : Nat → Int} {R : Inj} {E : T Unit} {σ : Sub} {N : Nat} {tm : T AV} {a : Act} {st st' : St} {v : AV} {call : CallV}
theorem cBin_class {op : BinOp} {t : TypeId} {x y : Operand} {co : CO} (hc : cBin P E σ op t x y = some co) : opClass co = 0 := by
  unfold cBin at hc
  obtain ⟨cx, hx, hc⟩ := bind_some hc
  obtain ⟨cy, hy, hc⟩ := bind_some hc
  obtain ⟨u, hu, hc⟩ := bind_some hc
  cases u <;> simp only at hc
  case int k => simp only [Option.some.injEq] at hc; subst hc; rfl
  case string => simp only [Option.some.injEq] at hc; subst hc; rfl
  all_goals
    cases op <;> simp only at hc <;> try (cases hc; done)
    all_goals
      obtain ⟨p, hp, hc⟩ := bind_some hc
      first
        | (simp only [Option.some.injEq] at hc; subst hc; rfl)
        | (split at hc <;> first | (cases hc; done) | (simp only [Option.some.injEq] at hc; subst hc; rfl))
theorem pure_op (C : Ctx ρ R E σ N tm a) {o : Oper} {co : CO} (hc : cOp P E σ o = some co) (hcl : opClass co = 0) (hnp : ∀ c x y, co ≠ .pick c x y) (h : evOp co tm st call = .ok (v, st')) : PureOK P ρ R a o st st' v := by
  obtain ⟨dst, op, ty, pos, af, g⟩ := o
  cases op
  case move x =>
    simp only [cOp] at hc
    obtain ⟨cx, hx, hc⟩ := bind_some hc
    simp only [Option.some.injEq] at hc; subst hc
    obtain ⟨e, hv⟩ := mv_ok C hx h
    exact ⟨e, _, fun w => rfl, hv⟩
  case assign x =>
    simp only [cOp] at hc
    obtain ⟨cx, hx, hc⟩ := bind_some hc
    simp only [Option.some.injEq] at hc; subst hc
    obtain ⟨e, hv⟩ := mv_ok C hx h
    exact ⟨e, _, fun w => rfl, hv⟩
  case pick c x y =>
    simp only [cOp] at hc
    obtain ⟨_, _, hc⟩ := bind_some hc
    obtain ⟨_, _, hc⟩ := bind_some hc
    obtain ⟨_, _, hc⟩ := bind_some hc
    simp only [Option.some.injEq] at hc; exact absurd hc.symm (hnp _ _ _)
  case alloc t => simp only [cOp] at hc; obtain ⟨_, _, hc⟩ := bind_some hc; simp only [Option.some.injEq] at hc; subst hc; simp [opClass] at hcl
  case box t x => simp only [cOp] at hc; obtain ⟨_, _, hc⟩ := bind_some hc; simp only [Option.some.injEq] at hc; subst hc; simp [opClass] at hcl
  case build t ps => exact build_ok C (by simpa only [cOp] using hc) h
  case buildSlice t n ps =>
    simp only [cOp] at hc
    obtain ⟨u, _, hc⟩ := bind_some hc
    cases u <;> simp only at hc <;> try (cases hc; done)
    obtain ⟨_, _, hc⟩ := bind_some hc
    obtain ⟨_, _, hc⟩ := bind_some hc
    split at hc
    · obtain ⟨_, _, hc⟩ := bind_some hc
      simp only [Option.some.injEq] at hc; subst hc; simp [opClass] at hcl
    · cases hc
  case insert t m k x =>
    simp only [cOp] at hc
    obtain ⟨u, _, hc⟩ := bind_some hc
    cases u <;> simp only at hc <;> try (cases hc; done)
    obtain ⟨_, _, hc⟩ := bind_some hc
    obtain ⟨_, _, hc⟩ := bind_some hc
    obtain ⟨_, _, hc⟩ := bind_some hc
    obtain ⟨_, _, hc⟩ := bind_some hc
    simp only [Option.some.injEq] at hc; subst hc; simp [opClass] at hcl
  case load t x =>
    simp only [cOp] at hc
    obtain ⟨n, _, hc⟩ := bind_some hc
    cases n <;> simp only at hc <;> obtain ⟨_, _, hc⟩ := bind_some hc <;> simp only [Option.some.injEq] at hc <;> subst hc <;> simp [opClass] at hcl
  case store t x y =>
    simp only [cOp] at hc
    obtain ⟨_, _, hc⟩ := bind_some hc
    obtain ⟨_, _, hc⟩ := bind_some hc
    obtain ⟨_, _, hc⟩ := bind_some hc
    simp only [Option.some.injEq] at hc; subst hc; simp [opClass] at hcl
  case ready => simp [cOp] at hc
  case waits => simp [cOp] at hc
  case nilCheck x =>
    simp only [cOp] at hc
    obtain ⟨cx, hx, hc⟩ := bind_some hc
    simp only [Option.some.injEq] at hc; subst hc
    exact nilCheck_ok C hx h
  case binOp op t x y yt => exact cBin_ok C (by simpa only [cOp] using hc) h
  case unOp op t x =>
    simp only [cOp] at hc
    obtain ⟨cx, hx, hc⟩ := bind_some hc
    simp only [Option.some.injEq] at hc; subst hc
    exact un_ok C hx h
  case convert s d x => exact convPure_ok C (by simpa only [cOp] using hc) hcl h
  case sliceToArrayPointer => simp [cOp] at hc
  case makeInterface t x => exact mkIface_ok C hc h
  case makeFunc fn x y =>
    cases fn <;> simp only [cOp] at hc <;> try (cases hc; done)
    obtain ⟨cx, hx, hc⟩ := bind_some hc
    obtain ⟨cy, hy, hc⟩ := bind_some hc
    simp only [Option.some.injEq] at hc; subst hc
    exact mkFunc_ok C hx hy h
  case makeMap t r => cases r <;> simp only [cOp] at hc <;> try (cases hc; done)
                      simp only [Option.some.injEq] at hc; subst hc; simp [opClass] at hcl
  case makeChan => simp [cOp] at hc
  case makeSlice t l c =>
    simp only [cOp] at hc
    obtain ⟨u, _, hc⟩ := bind_some hc
    cases u <;> simp only at hc <;> try (cases hc; done)
    obtain ⟨_, _, hc⟩ := bind_some hc
    obtain ⟨_, _, hc⟩ := bind_some hc
    obtain ⟨_, _, hc⟩ := bind_some hc
    split at hc
    · obtain ⟨_, _, hc⟩ := bind_some hc
      obtain ⟨_, _, hc⟩ := bind_some hc
      simp only [Option.some.injEq] at hc; subst hc; simp [opClass] at hcl
    · cases hc
  case slice t x l h' m => exact slice_ok C hc hcl h
  case fieldAddr s x i => exact fieldAddr_ok C hc h
  case field s x i => exact field_ok C hc h
  case indexAddr t x i => exact idxAddr_ok C hc h
  case index t x i => exact idx_ok C hc h
  case lookup t m k ok =>
    simp only [cOp] at hc
    obtain ⟨u, _, hc⟩ := bind_some hc
    cases u <;> simp only at hc <;> try (cases hc; done)
    obtain ⟨_, _, hc⟩ := bind_some hc
    obtain ⟨_, _, hc⟩ := bind_some hc
    obtain ⟨_, _, hc⟩ := bind_some hc
    obtain ⟨_, _, hc⟩ := bind_some hc
    simp only [Option.some.injEq] at hc; subst hc; simp [opClass] at hcl
  case mapUpdate t m k x =>
    simp only [cOp] at hc
    obtain ⟨u, _, hc⟩ := bind_some hc
    cases u <;> simp only at hc <;> try (cases hc; done)
    obtain ⟨_, _, hc⟩ := bind_some hc
    obtain ⟨_, _, hc⟩ := bind_some hc
    obtain ⟨_, _, hc⟩ := bind_some hc
    obtain ⟨_, _, hc⟩ := bind_some hc
    simp only [Option.some.injEq] at hc; subst hc; simp [opClass] at hcl
  case mapEntry => simp [cOp] at hc
  case entryStore => simp [cOp] at hc
  case range t x =>
    simp only [cOp] at hc
    obtain ⟨u, _, hc⟩ := bind_some hc
    cases u <;> simp only at hc <;> try (cases hc; done)
    all_goals obtain ⟨_, _, hc⟩ := bind_some hc; simp only [Option.some.injEq] at hc; subst hc; simp [opClass] at hcl
  case next x s =>
    simp only [cOp] at hc
    obtain ⟨_, _, hc⟩ := bind_some hc
    simp only [Option.some.injEq] at hc; subst hc; simp [opClass] at hcl
  case entry x =>
    simp only [cOp] at hc
    obtain ⟨_, _, hc⟩ := bind_some hc
    simp only [Option.some.injEq] at hc; subst hc; simp [opClass] at hcl
  case typeAssert x t t' ok => exact tyAssert_ok C hc h
  case extract x i =>
    simp only [cOp] at hc
    obtain ⟨cx, hx, hc⟩ := bind_some hc
    simp only [Option.some.injEq] at hc; subst hc
    exact extract_ok C hx h
  case call c =>
    obtain ⟨callee, args, argTypes⟩ := c
    simp only [cOp] at hc
    obtain ⟨ca, ha, hc⟩ := bind_some hc
    cases callee with
    | value f =>
      cases f <;> simp only at hc
      case func f => simp only [Option.some.injEq] at hc; subst hc; simp [opClass] at hcl
      all_goals obtain ⟨_, _, hc⟩ := bind_some hc; simp only [Option.some.injEq] at hc; subst hc; simp [opClass] at hcl
    | invoke r m => simp only at hc; cases hc
    | builtin b =>
      simp only at hc
      obtain ⟨e, cv, h1, h2⟩ := cBuiltin_pure (ty := ty) C ha hc hcl h
      exact ⟨e, cv, fun w => by rw [run_builtin]; exact h1 w _, h2⟩
  case go => simp [cOp] at hc
  case defer => simp [cOp] at hc
  case panic => simp [cOp] at hc
  case send => simp [cOp] at hc
  case recv => simp [cOp] at hc
  case select => simp [cOp] at hc
end
end Go.Ab

namespace Go.Ab
def Runs (P : Program) (a : Act) (o : Oper) (w : World) (cv : Value) (w' : World) : Prop :=
  (execOp a.eval o).run P w = .ok (.value cv) w' ∨ ((execOp a.eval o).run P w = .ok .skip w' ∧ cv = Go.undef)
structure MemOK (P : Program) (ρ : Nat → Int) (R : Inj) (a : Act) (o : Oper) (st st' : St) (v : AV) : Prop where
  mono : Mono st st'
  run : ∀ w, Inv P ρ R st.heap w → Fresh R st.next st'.next → ∃ cv w' R', Runs P a o w cv w' ∧ VR ρ R' v cv ∧ Step P ρ R st.heap w R' st'.heap w' st'.low st.next st'.next
section
variable {P : Program} {ρ : Nat → Int} {R : Inj} {E : T Unit} {σ : Sub} {N : Nat} {tm : T AV} {a : Act} {st st' : St} {v : AV} {call : CallV}
theorem cellsR_new {vs : List AV} {c : Array Value} (h : ∀ (i : Nat) (v : AV), vs[i]? = some v → ∃ cv, c[i]? = some cv ∧ VR ρ R v cv) (el : TypeId) (b : Nat) :
    CellsR ρ R (some el) (T.leaf.ofList 0 vs) 0 ⟨b, 0, c.size⟩ c el (0, 0) := by
  refine ⟨fun e' he => ⟨by injection he, rfl, .inl rfl⟩, by simp, fun i v hi => ?_, fun i _ _ hc => by omega⟩
  rw [T.get_ofList] at hi
  split at hi
  · rename_i hr
    simp only [Option.some.injEq] at hi
    have : vs[i]? = some v := by rw [← hi]; simp
    obtain ⟨cv, e, r⟩ := h i v this
    exact ⟨cv, by simpa using e, r⟩
  · rw [T.get_leaf] at hi; cases hi
theorem VRs.idx {l : List AV} {c : Array Value} (h : VRs ρ R l c.toList) : ∀ (i : Nat) (v : AV), l[i]? = some v → ∃ cv, c[i]? = some cv ∧ VR ρ R v cv := by
  intro i v hi
  obtain ⟨cv, e, r⟩ := h.get hi
  exact ⟨cv, by simpa using e, r⟩
theorem new_row {vs : List AV} {c : Array Value} (hv : ∀ R', Ext R R' → ∀ (i : Nat) (v : AV), vs[i]? = some v → ∃ cv, c[i]? = some cv ∧ VR ρ R' v cv) (el : TypeId) {w : World} (i : Inv P ρ R st.heap w) (hf : Fresh R st.next (st.next + 1)) :
    (newRow el c).run P w = .ok ⟨w.heap.size, 0, none⟩ { w with heap := w.heap.push (.cells c el) } ∧
    Step P ρ R st.heap w (R.upd st.next ⟨w.heap.size, 0, c.size⟩) (st.heap.set st.next (.cells (some el) (T.leaf.ofList 0 vs) 0)) { w with heap := w.heap.push (.cells c el) } st.low st.next (st.next + 1) := by
  have hn : R st.next = none := hf _ (Nat.le_refl _) (Nat.lt_succ_self _)
  refine ⟨by simp [newRow], ?_⟩
  refine Step.alloc i hn rfl (.cells _ _ _ _ _ _ _ ?_) _
  exact cellsR_new (hv _ (Inj.upd_ext hn _)) el _
theorem new_row' {vs : List AV} {c : Array Value} (hv : VRs ρ R vs c.toList) (el : TypeId) {w : World} (i : Inv P ρ R st.heap w) (hf : Fresh R st.next (st.next + 1)) :
    (newRow el c).run P w = .ok ⟨w.heap.size, 0, none⟩ { w with heap := w.heap.push (.cells c el) } ∧
    Step P ρ R st.heap w (R.upd st.next ⟨w.heap.size, 0, c.size⟩) (st.heap.set st.next (.cells (some el) (T.leaf.ofList 0 vs) 0)) { w with heap := w.heap.push (.cells c el) } st.low st.next (st.next + 1) :=
  new_row (fun _ hx => (hv.mono hx).idx) el i hf
section
variable {dst : Option Tmp} {ty : TypeId} {pos : String} {af : Array Edge} {g : Option (Nat × Bool)}
theorem newc_ok (C : Ctx ρ R E σ N tm a) {t : TypeId} {co : CO} (hc : cOp P E σ ⟨dst, .alloc t, ty, pos, af, g⟩ = some co) (h : evOp co tm st call = .ok (v, st')) : MemOK P ρ R a ⟨dst, .alloc t, ty, pos, af, g⟩ st st' v := by
  simp only [cOp] at hc
  obtain ⟨z, hz, hc⟩ := bind_some hc
  simp only [Option.some.injEq] at hc; subst hc
  simp only [evOp, opNewc, T.ofListK_eq, St.newK_eq] at h
  obtain ⟨rfl, rfl⟩ := ok_inj h
  obtain ⟨i, zv, hi, hzv, hcv⟩ := zeroOf_some hz
  refine ⟨Mono.new _ _, fun w iv hf => ?_⟩
  obtain ⟨h1, h2⟩ := new_row' (c := zv.cells) ((cVal_ok 4 hcv).cells (ρ := ρ) (R := R)) t iv hf
  refine ⟨.pointer (some ⟨w.heap.size, 0, none⟩), _, _, .inl ?_, ?_, h2⟩
  · simp only [execOp, Instr.alloc, Sem.run_bind, newVar]
    have hzero : (zeroValue t).run P w = .ok zv w := by simp [zeroValue, run_info hi, hzv]
    rw [hzero]; simp only [Result.andThen_ok]
    simp only [Sem.run_bind, h1]; rfl
  · exact .ptr _ 0 ⟨w.heap.size, 0, zv.cells.size⟩ (Inj.upd_eq _ _ _)
theorem box_ok (C : Ctx ρ R E σ N tm a) {t : TypeId} {x : Operand} {co : CO} (hc : cOp P E σ ⟨dst, .box t x, ty, pos, af, g⟩ = some co) (h : evOp co tm st call = .ok (v, st')) : MemOK P ρ R a ⟨dst, .box t x, ty, pos, af, g⟩ st st' v := by
  simp only [cOp] at hc
  obtain ⟨cx, hx, hc⟩ := bind_some hc
  simp only [Option.some.injEq] at hc; subst hc
  simp only [evOp, opBox, evAK_eq, T.ofListK_eq, St.newK_eq] at h
  obtain ⟨rfl, rfl⟩ := ok_inj h
  refine ⟨Mono.new _ _, fun w iv hf => ?_⟩
  obtain ⟨h1, h2⟩ := new_row' (C.opnd hx).cells t iv hf
  refine ⟨.pointer (some ⟨w.heap.size, 0, none⟩), _, _, .inl ?_, ?_, h2⟩
  · simp only [execOp, Instr.box, Sem.run_bind, newVar]
    simp only [Sem.run_bind, h1]; rfl
  · exact .ptr _ 0 ⟨w.heap.size, 0, (a.eval x).cells.size⟩ (Inj.upd_eq _ _ _)
theorem repL_length (z : List AV) (n : Nat) : (repL z n).length = n * z.length := by
  induction n with
  | zero => simp [repL]
  | succ n ih => simp [repL, ih, Nat.add_mul]; omega
theorem repL_ok {z : List AV} {cz : Array Value} (h : VRs ρ R z cz.toList) (n : Nat) : VRs ρ R (repL z n) ((Array.range (n * cz.size)).map (cz[· % cz.size]!)).toList := by
  have hl := h.length
  simp only [Array.length_toList] at hl
  have key : ∀ n, VRs ρ R (repL z n) ((List.range (n * cz.size)).map (cz[· % cz.size]!)) := by
    intro n
    induction n with
    | zero => simpa [repL] using VRs.nil
    | succ n ih =>
      simp only [repL]
      have e : List.range ((n + 1) * cz.size) = List.range cz.size ++ (List.range (n * cz.size)).map (cz.size + ·) := by
        rw [show (n + 1) * cz.size = cz.size + n * cz.size by rw [Nat.add_mul]; omega, List.range_add]
      rw [e, List.map_append]
      refine VRs.append ?_ ?_
      · have : (List.range cz.size).map (cz[· % cz.size]!) = cz.toList := by
          apply List.ext_getElem
          · simp
          · intro i h1 h2
            simp at h1
            simp [Nat.mod_eq_of_lt h1, h1]
        rw [this]; exact h
      · rw [List.map_map]
        have : (fun x => cz[x % cz.size]!) ∘ (fun x => cz.size + x) = fun x => cz[x % cz.size]! := by
          funext x; simp
        rw [this]; exact ih
  simpa using key n
theorem buildSlice_ok (C : Ctx ρ R E σ N tm a) {t : TypeId} {len : Nat} {parts : Array (Nat × Operand)} {co : CO} (hc : cOp P E σ ⟨dst, .buildSlice t len parts, ty, pos, af, g⟩ = some co) (h : evOp co tm st call = .ok (v, st')) :
    MemOK P ρ R a ⟨dst, .buildSlice t len parts, ty, pos, af, g⟩ st st' v := by
  simp only [cOp] at hc
  obtain ⟨u, hu, hc⟩ := bind_some hc
  cases u <;> simp only at hc <;> try (cases hc; done)
  case slice e =>
  obtain ⟨n, hn, hc⟩ := bind_some hc
  obtain ⟨z, hz, hc⟩ := bind_some hc
  split at hc
  · rename_i hzl
    obtain ⟨l, hl, hc⟩ := bind_some hc
    simp only [Option.some.injEq] at hc; subst hc
    obtain ⟨i, zv, hi, hzv, hcv⟩ := zeroOf_some hz
    have vz : VRs ρ R z.cells zv.cells.toList := (cVal_ok 4 hcv).cells
    have hlen := vz.length
    simp only [Array.length_toList] at hlen
    have hzl' : z.cells.length = n := by simpa using hzl
    have hzs : zv.cells.size = n := by omega
    simp only [evOp, opBuildSlice] at h
    cases hf : fillParts tm (repL z.cells len) l with
    | none => rw [hf] at h; cases h
    | some cs =>
      rw [hf] at h; simp only at h
      split at h
      · rename_i hb
        have hb := ble_true hb
        simp only [T.ofListK_eq, St.newK_eq] at h
        obtain ⟨rfl, rfl⟩ := ok_inj h
        obtain ⟨cr, e', hv⟩ := fill_ok C hl (repL_ok vz len) hf
        refine ⟨Mono.new _ _, fun w iv hf' => ?_⟩
        obtain ⟨h1, h2⟩ := new_row' hv e iv hf'
        have hsize : cr.size = len * n := by
          have h1 := hv.length
          have h2 : cs.length = (repL z.cells len).length := by
            have : ∀ (cp : List (Nat × Nat × CA)) (cs r : List AV), fillParts tm cs cp = some r → r.length = cs.length := by
              intro cp
              induction cp with
              | nil => intro cs r h; simp only [fillParts, Option.some.injEq] at h; rw [h]
              | cons p cp ih =>
                intro cs r h
                simp only [fillParts] at h
                split at h
                · rw [ih _ _ h]
                  have : ∀ (vs cs : List AV) (off : Nat), (layCells cs off vs).length = cs.length := by
                    intro vs
                    induction vs with
                    | nil => intro cs off; rfl
                    | cons v vs ih => intro cs off; simp only [layCells]; rw [ih, setList_eq]; simp
                  exact this _ _ _
                · cases h
            exact this _ _ _ hf
          rw [repL_length, hzl'] at h2
          simp only [Array.length_toList] at h1
          omega
        refine ⟨.slice (some ⟨w.heap.size, 0, none⟩) len len, _, _, .inl ?_, ?_, h2⟩
        · have hzero : ∀ w, (zeroValue e).run P w = .ok zv w := fun w => by simp [zeroValue, run_info hi, hzv]
          have hcond : ¬ (len * n > 2 ^ 24) := by omega
          have e'' : Instr.fill (fun i => some (i * n, n)) ((Array.range (len * n)).map (zv.cells[· % zv.cells.size]!)) (parts.map fun (i, x) => (i, a.eval x)).toList = some cr := by
            rw [Array.toList_map, ← hzs]
            rw [hzs]; rw [hzs] at e'; exact e'
          simp only [execOp, Instr.buildSlice, Sem.run_bind, run_und hu, Result.andThen_ok, run_size hn]
          rw [if_neg hcond]
          by_cases h0 : len * n = 0
          · have hz0 : (#[] : Array Nat).size = 0 := rfl
            simp only [Sem.run_bind, h0, if_true, Sem.run_pure, Result.andThen_ok]
            have e0 : ∀ (f : Nat → Value), (Array.range 0).map f = #[] := fun f => by simp
            have e3 : Instr.fill (fun i => some (i * n, n)) ((Array.range 0).map ((#[] : Array Value)[· % (#[] : Array Value).size]!)) (parts.map fun (i, x) => (i, a.eval x)).toList = some cr := by
              rw [h0, e0] at e''; rw [e0]; exact e''
            rw [e3]; simp only [Sem.run_bind, h1]; rfl
          · simp only [Sem.run_bind, h0, if_false, hzero, Sem.run_pure, Result.andThen_ok]
            rw [e'']; simp only [Sem.run_bind, h1]; rfl
        · exact .slice _ 0 len len true n ⟨w.heap.size, 0, cr.size⟩ _ len (Inj.upd_eq _ _ _) (.inr rfl) (Nat.le_refl _) (Nat.le_refl _) (fun _ => rfl) (by simp [hsize])
      · cases h
  · cases hc
end
end
end Go.Ab

namespace Go.Ab
section
variable {P : Program} {ρ : Nat → Int} {R : Inj} {E : T Unit} {σ : Sub} {N : Nat} {tm : T AV} {a : Act} {st st' : St} {v : AV} {call : CallV}
  {dst : Option Tmp} {ty : TypeId} {pos : String} {af : Array Edge} {g : Option (Nat × Bool)}
theorem mkMap_ok {t : TypeId} {r : Option Operand} {co : CO} (hc : cOp P E σ ⟨dst, .makeMap t r, ty, pos, af, g⟩ = some co) (h : evOp co tm st call = .ok (v, st')) : MemOK P ρ R a ⟨dst, .makeMap t r, ty, pos, af, g⟩ st st' v := by
  cases r <;> simp only [cOp] at hc <;> try (cases hc; done)
  simp only [Option.some.injEq] at hc; subst hc
  simp only [evOp, opMkMap, St.newK_eq] at h
  obtain ⟨rfl, rfl⟩ := ok_inj h
  refine ⟨Mono.new _ _, fun w iv hf => ?_⟩
  have hn : R st.next = none := hf _ (Nat.le_refl _) (Nat.lt_succ_self _)
  refine ⟨.map (some w.heap.size), _, _, .inl ?_, .map st.next ⟨w.heap.size, 0, 0⟩ (Inj.upd_eq _ _ _), Step.alloc (x := .map #[] 0) iv hn rfl (.map [] 0 _ #[] .nil) _⟩
  simp [execOp, Instr.makeMap]
theorem mkSlice_ok (C : Ctx ρ R E σ N tm a) {t : TypeId} {l c : Operand} {co : CO} (hc : cOp P E σ ⟨dst, .makeSlice t l c, ty, pos, af, g⟩ = some co) (h : evOp co tm st call = .ok (v, st')) : MemOK P ρ R a ⟨dst, .makeSlice t l c, ty, pos, af, g⟩ st st' v := by
  simp only [cOp] at hc
  obtain ⟨u, hu, hc⟩ := bind_some hc
  cases u <;> simp only at hc <;> try (cases hc; done)
  case slice e =>
  obtain ⟨n, hn, hc⟩ := bind_some hc
  obtain ⟨b, hb, hc⟩ := bind_some hc
  obtain ⟨z, hz, hc⟩ := bind_some hc
  split at hc
  · rename_i hzl
    obtain ⟨cl, hl, hc⟩ := bind_some hc
    obtain ⟨cc, hcc, hc⟩ := bind_some hc
    simp only [Option.some.injEq] at hc; subst hc
    simp only [Bool.and_eq_true, beq_iff_eq, decide_eq_true_eq] at hzl
    obtain ⟨i, zv, hi, hzv, hcv⟩ := zeroOf_some hz
    obtain ⟨i', hi', hib⟩ := bytesOfT_some hb
    have : i' = i := by rw [hi] at hi'; injection hi' with e; exact e.symm
    subst this
    have vz : VRs ρ R z.cells zv.cells.toList := (cVal_ok 4 hcv).cells
    have hlen := vz.length
    simp only [Array.length_toList] at hlen
    have hzs : zv.cells.size = n := by omega
    have vl := C.opnd hl
    have vc := C.opnd hcc
    simp only [evOp, opMkSlice, evAK_eq] at h
    generalize evA tm cl = X at vl h
    generalize evA tm cc = Y at vc h
    generalize hqx : a.eval l = cvx at vl
    generalize hqy : a.eval c = cvy at vc
    cases vl <;> (try simp only at h) <;> try (cases h; done)
    case int k m =>
    cases m with
    | negSucc m => simp only at h; cases h
    | ofNat m =>
    simp only at h
    cases vc <;> (try simp only at h) <;> try (cases h; done)
    case int k' m' =>
    cases m' with
    | negSucc m' => simp only at h; cases h
    | ofNat m' =>
    simp only at h
    split at h
    · rename_i hb'
      simp only [Bool.and_eq_true] at hb'
      have h1 := ble_true hb'.1.1
      have h2 := ble_true hb'.1.2
      have h3 := blt_true hb'.2
      simp only [T.ofListK_eq, St.newK_eq] at h
      obtain ⟨rfl, rfl⟩ := ok_inj h
      refine ⟨Mono.new _ _, fun w iv hf => ?_⟩
      have hrep := repL_ok vz m'
      obtain ⟨r1, r2⟩ := new_row' hrep e iv hf
      have hsz : ((Array.range (m' * zv.cells.size)).map (zv.cells[· % zv.cells.size]!)).size = m' * n := by simp [hzs]
      refine ⟨.slice (some ⟨w.heap.size, 0, none⟩) m m', _, _, .inl ?_, ?_, r2⟩
      · have w1 : IntKind.i64.wrap (Int.ofNat m) = m := wrap_small .i64 m (by simp only [half]; omega)
        have w2 : IntKind.i64.wrap (Int.ofNat m') = m' := wrap_small .i64 m' (by simp only [half]; exact h3)
        have hbytes : ¬ ((i'.bytes : Int) * (m' : Int) > 2 ^ 48) := by
          rw [hib]
          have : (b : Int) * (m' : Int) = ((m' * b : Nat) : Int) := by rw [Nat.mul_comm]; simp
          rw [this]; omega
        have hz0 : ∀ w, (zeroValue e).run P w = .ok zv w := fun w => by simp [zeroValue, run_info hi, hzv]
        simp only [execOp, hqx, hqy, Instr.makeSlice, Sem.run_bind, run_und hu, Result.andThen_ok, asInt, asIntOf, Sem.run_pure, run_info hi, w1, w2]
        have hb2 : (i'.bytes : Int) * (m' : Int) ≤ 281474976710656 := by simpa using hbytes
        have hcond : (((decide ((m' : Int) < 0) || decide ((i'.bytes : Int) * (m' : Int) > 2 ^ 48)) || decide ((m : Int) < 0) || decide ((m : Int) > (m' : Int))) = true) = False := by
          have a1 : ¬ ((m' : Int) < 0) := by omega
          have a2 : ¬ ((m : Int) < 0) := by omega
          have a3 : ¬ ((m : Int) > (m' : Int)) := by omega
          simp [a1, a2, a3, hb2]
        simp only [hcond, if_false, Sem.run_bind, Sem.run_pure, run_askRoom, Result.andThen_ok, Int.toNat_natCast, run_size hn]
        by_cases h0 : m' * n = 0
        · have e0 : ∀ (f : Nat → Value), (Array.range 0).map f = #[] := fun f => by simp
          rw [hzs, h0, e0] at r1
          simp only [h0, if_true, Sem.run_pure, Sem.run_bind, Result.andThen_ok, e0]
          rw [r1]
          simp only [Result.andThen_ok, Sem.run_pure]
          rw [hzs, h0, e0]
        · simp only [h0, if_false, Sem.run_bind, hz0, Sem.run_pure, Result.andThen_ok]
          rw [← hzs, r1]; rfl
      · exact .slice _ 0 m m' true n ⟨w.heap.size, 0, _⟩ _ m' (Inj.upd_eq _ _ _) (.inr rfl) h1 (Nat.le_refl _) (fun _ => rfl) (by simp only [hsz]; omega)
    · cases h
  · cases hc
end
end Go.Ab

namespace Go.Ab
section
variable {P : Program} {ρ : Nat → Int} {R : Inj} {E : T Unit} {σ : Sub} {N : Nat} {tm : T AV} {a : Act} {st st' : St} {v : AV} {call : CallV} {h : T AObj} {w : World}
theorem cellsOf_get {id : Nat} {e : Option Nat} {cs : T AV} {fz : Nat} (hc : cellsOf h id = some (e, cs, fz)) : h.get id = some (.cells e cs fz) := by
  unfold cellsOf at hc
  split at hc
  · rename_i hg; simp only [Option.some.injEq, Prod.mk.injEq] at hc; obtain ⟨rfl, rfl, rfl⟩ := hc; exact hg
  · cases hc
theorem Inv.cells (i : Inv P ρ R h w) {id : Nat} {e : Option Nat} {cs : T AV} {fz : Nat} (hg : h.get id = some (.cells e cs fz)) {l : Loc} (hR : R id = some l) :
    ∃ c el fr, w.heap[l.b]? = some (.cells c el fr) ∧ CellsR ρ R e cs fz l c el fr := by
  obtain ⟨x, hx, r⟩ := i.at hg hR
  cases r with
  | cells _ _ _ _ c el fr r => exact ⟨c, el, fr, hx, r⟩
theorem cell_of {b o : Nat} {c : Array Value} {el : TypeId} {fr : Nat × Nat} (hx : w.heap[b]? = some (.cells c el fr)) : w.cell? ⟨b, o, none⟩ = c[o]? := by
  simp [World.cell?, hx]
theorem frozen_of {b o : Nat} {c : Array Value} {el : TypeId} {fr : Nat × Nat} (hx : w.heap[b]? = some (.cells c el fr)) : w.frozen? ⟨b, o, none⟩ = (decide (fr.1 ≤ o) && decide (o < fr.2)) := by
  simp [World.frozen?, hx]
theorem shape_of {b : Nat} {c : Array Value} {el : TypeId} {fr : Nat × Nat} (hx : w.heap[b]? = some (.cells c el fr)) : w.shape? b = some (el, c.size) := by
  simp [World.shape?, hx]
theorem load1_ok (i : Inv P ρ R h w) {id off : Nat} {l : Loc} (hR : R id = some l) (hl : load1At h id off = some v) : ∃ cv, (load ⟨l.b, l.base + off, none⟩).run P w = .ok cv w ∧ VR ρ R v cv := by
  unfold load1At at hl
  split at hl
  · rename_i e cs fz hg
    obtain ⟨c, el, fr, hx, r⟩ := i.cells hg hR
    obtain ⟨cv, hcv, rv⟩ := r.rel off v hl
    exact ⟨cv, by rw [run_load, cell_of hx, hcv], rv⟩
  · cases hl
theorem loadFrom_ok {e : Option Nat} {cs : T AV} {fz : Nat} {l : Loc} {c : Array Value} {el : TypeId} {fr : Nat × Nat} (hx : w.heap[l.b]? = some (.cells c el fr)) (r : CellsR ρ R e cs fz l c el fr) :
    ∀ (n off : Nat) (vs : List AV), loadFrom cs off n = some vs → ∀ (o k : Nat) (acc : Array Value), o + k = l.base + off →
      ∃ m, (loadCellsFrom ⟨l.b, o, none⟩ k n acc).run P w = .ok m w ∧ ∃ t, m.toList = acc.toList ++ t ∧ VRs ρ R vs t := by
  intro n
  induction n with
  | zero =>
    intro off vs hl o k acc _
    simp only [loadFrom, Option.some.injEq] at hl; subst hl
    exact ⟨acc, rfl, [], by simp, .nil⟩
  | succ n ih =>
    intro off vs hl o k acc he
    simp only [loadFrom] at hl
    cases hc : cs.get off with
    | none => rw [hc] at hl; cases hl
    | some x =>
      rw [hc] at hl; simp only at hl
      cases hl' : loadFrom cs (Nat.succ off) n with
      | none => rw [hl'] at hl; cases hl
      | some l' =>
        rw [hl'] at hl; simp only [Option.some.injEq] at hl; subst hl
        obtain ⟨cv, hcv, rv⟩ := r.rel off x hc
        obtain ⟨m, hm, t, ht, hv⟩ := ih (Nat.succ off) l' hl' o (k + 1) (acc.push cv) (by omega)
        refine ⟨m, ?_, cv :: t, by rw [ht]; simp, .cons _ _ _ _ rv hv⟩
        simp only [loadCellsFrom, Sem.run_bind, run_load, addr_add, cell_of hx]
        rw [he, hcv]; exact hm
theorem loadCells_ok {e : Option Nat} {cs : T AV} {fz : Nat} {l : Loc} {c : Array Value} {el : TypeId} {fr : Nat × Nat} (hx : w.heap[l.b]? = some (.cells c el fr)) (r : CellsR ρ R e cs fz l c el fr) {n off : Nat} {vs : List AV} (hl : loadFrom cs off n = some vs) :
    ∃ m, (loadCells ⟨l.b, l.base + off, none⟩ n).run P w = .ok m w ∧ VRs ρ R vs m.toList := by
  obtain ⟨m, hm, t, ht, hv⟩ := loadFrom_ok (P := P) hx r n off vs hl (l.base + off) 0 #[] rfl
  exact ⟨m, hm, by rw [ht]; simpa using hv⟩
theorem loadN_ok (i : Inv P ρ R h w) {id off n : Nat} {l : Loc} (hR : R id = some l) (hl : loadNAt h id off n = some v) : ∃ cv, (loadCells ⟨l.b, l.base + off, none⟩ n).run P w = .ok cv w ∧ VR ρ R v (.agg cv) := by
  unfold loadNAt at hl
  split at hl
  · rename_i e cs fz hg
    obtain ⟨c, el, fr, hx, r⟩ := i.cells hg hR
    cases hf : loadFrom cs off n with
    | none => rw [hf] at hl; cases hl
    | some vs =>
      rw [hf] at hl; simp only [Option.some.injEq] at hl; subst hl
      obtain ⟨m, hm, hv⟩ := loadCells_ok (P := P) hx r hf
      exact ⟨m, hm, .agg _ _ hv⟩
  · cases hl
theorem loadAt_ok (i : Inv P ρ R h w) {t : TypeId} {n : Option Nat} (ha : aggOf P t = some n) {p : AV} {cp : Value} (hp : VR ρ R p cp) (hl : loadAt h p n = some v) : ∃ cv, (Instr.loadAt t cp).run P w = .ok cv w ∧ VR ρ R v cv := by
  cases hp <;> simp only [loadAt] at hl <;> try (cases hl; done)
  case ptr id off l hR =>
    obtain ⟨h1, h2⟩ := run_isAgg (w := w) ha
    cases n with
    | none =>
      obtain ⟨cv, hr, hv⟩ := load1_ok i hR hl
      exact ⟨cv, by simp only [Instr.loadAt, Instr.sureAddr, Sem.run_bind, Sem.run_pure, Result.andThen_ok, loadVar, h1]; exact hr, hv⟩
    | some n =>
      obtain ⟨cv, hr, hv⟩ := loadN_ok i hR hl
      exact ⟨.agg cv, by simp [Instr.loadAt, Instr.sureAddr, loadVar, h1, run_size (h2 n rfl), hr], hv⟩
section
variable {dst : Option Tmp} {ty : TypeId} {pos : String} {af : Array Edge} {g : Option (Nat × Bool)}
theorem cLoad {t : TypeId} {x : Operand} {co : CO} (hc : cOp P E σ ⟨dst, .load t x, ty, pos, af, g⟩ = some co) : ∃ n cx, aggOf P t = some n ∧ cOpnd E σ x = some cx ∧ asLoad co = some (cx, n) ∧ co = (match n with | none => .load1 cx | some n => .loadN n cx) := by
  simp only [cOp] at hc
  obtain ⟨n, hn, hc⟩ := bind_some hc
  cases n <;> simp only at hc <;> obtain ⟨cx, hx, hc⟩ := bind_some hc <;> simp only [Option.some.injEq] at hc <;> subst hc
  · exact ⟨none, cx, hn, hx, rfl, rfl⟩
  · exact ⟨some _, cx, hn, hx, rfl, rfl⟩
theorem load_ok (C : Ctx ρ R E σ N tm a) {t : TypeId} {x : Operand} {co : CO} (hc : cOp P E σ ⟨dst, .load t x, ty, pos, af, g⟩ = some co) (h : evOp co tm st call = .ok (v, st')) : MemOK P ρ R a ⟨dst, .load t x, ty, pos, af, g⟩ st st' v := by
  obtain ⟨n, cx, hn, hx, _, rfl⟩ := cLoad hc
  have hl : loadAt st.heap (evA tm cx) n = some v ∧ st' = st := by
    cases n with
    | none => simp only [evOp, opLoad1, evAK_eq] at h; exact retL_ok h
    | some n => simp only [evOp, opLoadN, evAK_eq] at h; exact retL_ok h
  obtain ⟨hl, rfl⟩ := hl
  refine ⟨Mono.refl _, fun w iv hf => ?_⟩
  obtain ⟨cv, hr, hv⟩ := loadAt_ok iv hn (C.opnd hx) hl
  exact ⟨cv, w, R, .inl (by simp [execOp, hr]), hv, Step.refl iv _ _⟩
def setRange (c : Array Value) (k : Nat) : List Value → Array Value
  | [] => c
  | v :: l => setRange (c.setIfInBounds k v) (k + 1) l
theorem setRange_size (l : List Value) (c : Array Value) (k : Nat) : (setRange c k l).size = c.size := by
  induction l generalizing c k with
  | nil => rfl
  | cons v l ih => simp [setRange, ih]
theorem setRange_get (l : List Value) (c : Array Value) (k i : Nat) (hk : k + l.length ≤ c.size) : (setRange c k l)[i]? = if k ≤ i ∧ i < k + l.length then l[i - k]? else c[i]? := by
  induction l generalizing c k with
  | nil => simp only [setRange, List.length_nil]; rw [if_neg (by omega)]
  | cons v l ih =>
    simp only [setRange, List.length_cons] at *
    rw [ih _ _ (by simp; omega)]
    by_cases h1 : k + 1 ≤ i ∧ i < k + 1 + l.length
    · rw [if_pos h1, if_pos (by omega)]
      obtain ⟨d, rfl⟩ : ∃ d, i = k + 1 + d := ⟨i - (k + 1), by omega⟩
      have e1 : k + 1 + d - (k + 1) = d := by omega
      have e2 : k + 1 + d - k = d + 1 := by omega
      rw [e1, e2]; simp
    · rw [if_neg h1]
      by_cases h2 : i = k
      · subst h2; rw [if_pos (by omega), Array.getElem?_setIfInBounds_self_of_lt (by omega)]; simp
      · rw [if_neg (by omega)]; exact Array.getElem?_setIfInBounds_ne (fun e => h2 e.symm)
theorem run_storeCells (b o : Nat) (el : TypeId) (fr : Nat × Nat) : ∀ (vs : List Value) (k : Nat) (c : Array Value) (w : World), w.heap[b]? = some (.cells c el fr) → o + k + vs.length ≤ c.size →
    (∀ i, o + k ≤ i → i < o + k + vs.length → ¬ (fr.1 ≤ i ∧ i < fr.2)) → (∀ v ∈ vs, v.oneCell' = true) →
    (storeCells ⟨b, o, none⟩ vs k).run P w = .ok () { w with heap := w.heap.setIfInBounds b (.cells (setRange c (o + k) vs) el fr) } := by
  intro vs
  induction vs with
  | nil =>
    intro k c w hx _ _ _
    simp only [storeCells, Sem.run_pure, setRange, Result.ok.injEq, true_and]
    obtain ⟨hp, tp, d, os, out⟩ := w
    simp only [World.mk.injEq, and_self, and_true]
    apply Array.ext_getElem?
    intro i
    by_cases e : i = b
    · subst e
      simp only at hx
      have := (Array.getElem?_eq_some_iff.1 hx).1
      rw [hx]; simp [this]
    · rw [Array.getElem?_setIfInBounds_ne (fun c => e c.symm)]
  | cons v vs ih =>
    intro k c w hx hs hf ho
    have hb := (Array.getElem?_eq_some_iff.1 hx).1
    simp only [List.length_cons] at hs hf
    have hcell : w.cell? ⟨b, o + k, none⟩ = c[o + k]? := cell_of hx
    have hlt : o + k < c.size := by omega
    have hfr : w.frozen? ⟨b, o + k, none⟩ = false := by
      rw [frozen_of hx]
      have := hf (o + k) (by omega) (by omega)
      by_cases h1 : fr.1 ≤ o + k
      · have h2 : ¬ (o + k < fr.2) := fun c => this ⟨h1, c⟩
        simp [h2]
      · simp [h1]
    have hset : w.setCell ⟨b, o + k, none⟩ v = { w with heap := w.heap.setIfInBounds b (.cells (c.setIfInBounds (o + k) v) el fr) } := by
      simp only [World.setCell]
      obtain ⟨hp, tp, d, os, out⟩ := w
      simp only [World.mk.injEq, and_self, and_true]
      apply Array.ext_getElem?
      intro i
      simp only at hx hb
      by_cases e : i = b
      · subst e; rw [Array.getElem?_setIfInBounds_self_of_lt hb, Array.getElem?_modify]; simp only [hx]; simp
      · rw [Array.getElem?_setIfInBounds_ne (fun c => e c.symm), Array.getElem?_modify]
        simp only [if_neg (fun c => e (Eq.symm c) : ¬ b = i)]
    simp only [storeCells, Sem.run_bind, addr_add]
    rw [run_store P w _ v .plain (ho v (by simp)), hcell, Array.getElem?_eq_getElem hlt]
    simp only [hfr, Bool.false_eq_true, if_false, Result.andThen_ok, hset]
    rw [ih (k + 1) (c.setIfInBounds (o + k) v) _ (by simp [hb]) (by simp; omega) (fun i h1 h2 => hf i (by omega) (by omega)) (fun v hv => ho v (by simp [hv]))]
    simp only [setRange, Result.ok.injEq, true_and]
    congr 1
    simp [Nat.add_assoc]
end
end
end Go.Ab

namespace Go.Ab
section
variable {P : Program} {ρ : Nat → Int} {R : Inj} {E : T Unit} {σ : Sub} {N : Nat} {tm : T AV} {a : Act} {st st' : St} {v : AV} {call : CallV} {h : T AObj} {w : World}
theorem VR.one {v : AV} {cv : Value} (r : VR ρ R v cv) (h : v.one = true) : cv.oneCell' = true := by
  cases r <;> first | rfl | (simp [AV.one] at h)
theorem storeFrom_spec : ∀ (vs : List AV) (cs : T AV) (off : Nat) (cs' : T AV), storeFrom cs off vs = some cs' →
    (∀ i, cs'.get i = if off ≤ i ∧ i < off + vs.length then vs[i - off]? else cs.get i) ∧ (∀ i, off ≤ i → i < off + vs.length → ∃ x, cs.get i = some x) ∧ (∀ v ∈ vs, v.one = true) := by
  intro vs
  induction vs with
  | nil =>
    intro cs off cs' h
    simp only [storeFrom, Option.some.injEq] at h; subst h
    refine ⟨fun i => ?_, fun i h1 h2 => ?_, fun v hv => by cases hv⟩
    · rw [if_neg (by simp only [List.length_nil]; omega)]
    · simp only [List.length_nil] at h2; omega
  | cons v vs ih =>
    intro cs off cs' h
    simp only [storeFrom] at h
    cases ho : v.one with
    | false => rw [ho] at h; cases h
    | true =>
      rw [ho] at h; simp only at h
      cases hg : cs.get off with
      | none => rw [hg] at h; cases h
      | some x =>
        rw [hg] at h; simp only [T.setK_eq] at h
        obtain ⟨h1, h2, h3⟩ := ih _ _ _ h
        refine ⟨fun i => ?_, fun i ha hb => ?_, fun u hu => ?_⟩
        · rw [h1, T.get_set]
          simp only [List.length_cons, Nat.succ_eq_add_one]
          by_cases c1 : off + 1 ≤ i ∧ i < off + 1 + vs.length
          · rw [if_pos c1, if_pos (by omega)]
            obtain ⟨d, rfl⟩ : ∃ d, i = off + 1 + d := ⟨i - (off + 1), by omega⟩
            have e1 : off + 1 + d - (off + 1) = d := by omega
            have e2 : off + 1 + d - off = d + 1 := by omega
            rw [e1, e2]; rfl
          · rw [if_neg c1]
            by_cases c2 : i = off
            · subst c2; rw [if_pos rfl, if_pos (by omega)]; simp
            · rw [if_neg c2, if_neg (by omega)]
        · simp only [List.length_cons] at hb
          by_cases c2 : i = off
          · subst c2; exact ⟨x, hg⟩
          · obtain ⟨y, hy⟩ := h2 i (by omega) (by omega)
            rw [T.get_set, if_neg c2] at hy; exact ⟨y, hy⟩
        · cases hu with
          | head => exact ho
          | tail _ hu => exact h3 u hu
theorem VRs.one {vs : List AV} {cvs : List Value} (r : VRs ρ R vs cvs) (h : ∀ v ∈ vs, v.one = true) : ∀ v ∈ cvs, v.oneCell' = true := by
  intro cv hcv
  obtain ⟨i, hi, rfl⟩ := List.getElem_of_mem hcv
  have hl := r.length
  have : vs[i]? = some vs[i] := List.getElem?_eq_getElem (by omega)
  obtain ⟨cv', e, rv⟩ := r.get this
  rw [List.getElem?_eq_getElem hi] at e
  injection e with e; rw [e]
  exact rv.one (h _ (List.getElem_mem _))
theorem CellsR.write {e : Option Nat} {cs cs' : T AV} {fz : Nat} {l : Loc} {c : Array Value} {el : TypeId} {fr : Nat × Nat} (r : CellsR ρ R e cs fz l c el fr) {vs : List AV} {cvs : List Value} (hv : VRs ρ R vs cvs) {off : Nat}
    (hs : l.base + off + cvs.length ≤ c.size) (hg : ∀ i, cs'.get i = if off ≤ i ∧ i < off + vs.length then vs[i - off]? else cs.get i) : CellsR ρ R e cs' fz l (setRange c (l.base + off) cvs) el fr := by
  have hl := hv.length
  refine ⟨r.elem, by rw [setRange_size]; exact r.size, fun i v hi => ?_, fun i h1 h2 => r.free i h1 (by rw [setRange_size] at h2; exact h2)⟩
  rw [hg] at hi
  rw [setRange_get _ _ _ _ hs]
  by_cases c1 : off ≤ i ∧ i < off + vs.length
  · rw [if_pos c1] at hi
    rw [if_pos (by omega)]
    obtain ⟨cv, e, rv⟩ := hv.get hi
    exact ⟨cv, by rw [show l.base + i - (l.base + off) = i - off by omega]; exact e, rv⟩
  · rw [if_neg c1] at hi
    rw [if_neg (by omega)]
    exact r.rel i v hi
theorem store_row {id off : Nat} {e : Option Nat} {cs cs' : T AV} {fz : Nat} {vs : List AV} {cvs : List Value} (iv : Inv P ρ R h w) (hg : h.get id = some (.cells e cs fz)) {l : Loc} (hR : R id = some l)
    (hf : fz ≤ off) (hs : storeFrom cs off vs = some cs') (hv : VRs ρ R vs cvs) {low n : Nat} (hl : low ≤ id) :
    ∃ w', (storeCells ⟨l.b, l.base + off, none⟩ cvs).run P w = .ok () w' ∧ Step P ρ R h w R (h.set id (.cells e cs' fz)) w' low n n := by
  obtain ⟨c, el, fr, hx, r⟩ := iv.cells hg hR
  obtain ⟨h1, h2, h3⟩ := storeFrom_spec _ _ _ _ hs
  have hlen := hv.length
  by_cases c0 : vs.length = 0
  · have e1 : vs = [] := List.eq_nil_of_length_eq_zero c0
    have e2 : cvs = [] := List.eq_nil_of_length_eq_zero (by omega)
    subst e1; subst e2
    simp only [storeFrom, Option.some.injEq] at hs; subst hs
    refine ⟨{ w with heap := w.heap.setIfInBounds l.b (.cells c el fr) }, ?_, Step.write iv hg hR (.cells _ _ _ _ _ _ _ r) hl⟩
    simp only [storeCells, Sem.run_pure, Result.ok.injEq, true_and]
    obtain ⟨hp, tp, d, os, out⟩ := w
    simp only [World.mk.injEq, and_self, and_true]
    apply Array.ext_getElem?
    intro i
    by_cases e : i = l.b
    · subst e
      simp only at hx
      have := (Array.getElem?_eq_some_iff.1 hx).1
      rw [hx]; simp [this]
    · rw [Array.getElem?_setIfInBounds_ne (fun c => e c.symm)]
  have hsz : l.base + off + cvs.length ≤ c.size := by
    obtain ⟨x, hx'⟩ := h2 (off + (vs.length - 1)) (by omega) (by omega)
    obtain ⟨cv, e', _⟩ := r.rel _ _ hx'
    have := (Array.getElem?_eq_some_iff.1 e').1
    omega
  have run := run_storeCells (P := P) l.b (l.base + off) el fr cvs 0 c w hx (by omega) (fun i a b => r.free i (by omega) (by omega)) (hv.one h3)
  exact ⟨_, run, Step.write iv hg hR (.cells _ _ _ _ _ _ _ (r.write hv hsz h1)) hl⟩
section
variable {dst : Option Tmp} {ty : TypeId} {pos : String} {af : Array Edge} {g : Option (Nat × Bool)}
theorem store_ok (C : Ctx ρ R E σ N tm a) {t : TypeId} {x y : Operand} {co : CO} (hc : cOp P E σ ⟨dst, .store t x y, ty, pos, af, g⟩ = some co) (h : evOp co tm st call = .ok (v, st')) : MemOK P ρ R a ⟨dst, .store t x y, ty, pos, af, g⟩ st st' v := by
  simp only [cOp] at hc
  obtain ⟨n, hn, hc⟩ := bind_some hc
  obtain ⟨cx, hx, hc⟩ := bind_some hc
  obtain ⟨cy, hy, hc⟩ := bind_some hc
  simp only [Option.some.injEq] at hc; subst hc
  simp only [evOp, opStore, evAK_eq] at h
  have vx := C.opnd hx
  have vy := C.opnd hy
  generalize evA tm cx = X at vx h
  generalize evA tm cy = Y at vy h
  generalize hqx : a.eval x = cvx at vx
  generalize hqy : a.eval y = cvy at vy
  cases vx <;> (try simp only at h) <;> try (cases h; done)
  case ptr id off l hR =>
  unfold storeAt at h
  cases hco : cellsOf st.heap id with
  | none => rw [hco] at h; cases h
  | some q =>
    obtain ⟨e, cs, fz⟩ := q
    rw [hco] at h; simp only at h
    split at h
    · rename_i hb
      simp only [Bool.and_eq_true] at hb
      have hlen := beq_true hb.1
      have hfz := ble_true hb.2
      cases hsf : storeFrom cs off Y.cells with
      | none => rw [hsf] at h; cases h
      | some cs' =>
        rw [hsf] at h; simp only [St.putK_eq] at h
        obtain ⟨rfl, rfl⟩ := ok_inj h
        refine ⟨Mono.put _ _ _, fun w iv hf => ?_⟩
        obtain ⟨w', hrun, hstep⟩ := store_row (P := P) iv (cellsOf_get hco) hR hfz hsf vy.cells (low := (st.put id (.cells e cs' fz)).low) (n := st.next) (lowered_le _ _).2
        have hl' := vy.cells.length
        simp only [Array.length_toList, lenL_eq] at hl' hlen
        refine ⟨Go.undef, w', R, .inr ⟨?_, rfl⟩, VR.undef, hstep⟩
        simp only [execOp, hqx, hqy, Instr.storeAt, Sem.run_bind, Instr.sureAddr, Sem.run_pure, Result.andThen_ok, storeVar, run_size hn]
        rw [if_neg (by simp; omega)]
        rw [hrun]; rfl
    · cases h
end
end
end Go.Ab

namespace Go.Ab
section
variable {P : Program} {ρ : Nat → Int} {R : Inj} {E : T Unit} {σ : Sub} {N : Nat} {tm : T AV} {a : Act} {st st' : St} {v : AV} {call : CallV} {h : T AObj} {w : World}
def byteV (x : UInt8) : AV := .int .u8 (.ofNat x.toNat)
def byteC (x : UInt8) : Value := .int .u8 x.toNat
theorem packFrom_spec : ∀ (n : Nat) (cs : T AV) (off sh acc b : Nat), packFrom cs off sh acc n = some b →
    ∃ l : List UInt8, l.length = n ∧ loadFrom cs off n = some (l.map byteV) ∧ b = acc + packL l * 2 ^ sh := by
  intro n
  induction n with
  | zero => intro cs off sh acc b h; simp only [packFrom, Option.some.injEq] at h; subst h; exact ⟨[], rfl, rfl, by simp [packL]⟩
  | succ n ih =>
    intro cs off sh acc b h
    simp only [packFrom] at h
    split at h
    · rename_i x hg
      split at h
      · rename_i hb
        have hb := blt_true hb
        simp only [forceN_eq] at h
        obtain ⟨l, hl, hf, e⟩ := ih _ _ _ _ _ h
        refine ⟨UInt8.ofNat x :: l, by simp [hl], ?_, ?_⟩
        · simp only [loadFrom, hg, hf, List.map_cons, byteV]
          have : (UInt8.ofNat x).toNat = x := by simp [Nat.mod_eq_of_lt hb]
          rw [this]
        · rw [e]
          simp only [packL]
          have : (UInt8.ofNat x).toNat = x := by simp [Nat.mod_eq_of_lt hb]
          rw [this, Nat.add_eq, Nat.shiftLeft_eq', Nat.shiftLeft_eq, Nat.add_mul, show sh.add 8 = sh + 8 from rfl, Nat.pow_add, Nat.mul_comm 256, Nat.mul_assoc, Nat.mul_comm (2 ^ sh)]
          simp only [Nat.add_assoc]
      · cases h
    · cases h
theorem VRs.bytes {l : List UInt8} {cs : List Value} (r : VRs ρ R (l.map byteV) cs) : cs = l.map byteC := by
  induction l generalizing cs with
  | nil => cases r; rfl
  | cons x l ih =>
    simp only [List.map_cons] at r
    cases r with
    | cons _ _ _ _ h hs =>
      rw [ih hs]
      cases h; rfl
theorem bytes_loop (f : Value → ByteArray → Sem (ForInStep ByteArray)) (hf : ∀ x s, (f (byteC x) s).run P w = .ok (.yield (s.push x)) w) (l : List UInt8) (s : ByteArray) : (forIn (m := Sem) (l.map byteC) s f).run P w = .ok (l.foldl (fun s x => s.push x) s) w := by
  induction l generalizing s with
  | nil => simp
  | cons x l ih =>
    simp only [List.map_cons, List.forIn_cons, Sem.run_bind, hf, Result.andThen_ok, List.foldl_cons]
    exact ih _
theorem foldl_push (l : List UInt8) (s : ByteArray) : (l.foldl (fun s x => s.push x) s).data.toList = s.data.toList ++ l := by
  induction l generalizing s with
  | nil => simp
  | cons x l ih => simp only [List.foldl_cons]; rw [ih]; simp [ByteArray.push]
theorem run_bytesToString {x : Addr} {n C : Nat} {l : List UInt8} {m : Array Value} (hm : (loadCells x n).run P w = .ok m w) (e : m.toList = l.map byteC) :
    ∃ s, (Conv.bytesToString (.slice (some x) n C)).run P w = .ok (.string s) w ∧ s.data.toList = l := by
  refine ⟨l.foldl (fun s x => s.push x) ByteArray.empty, ?_, by rw [foldl_push]; rfl⟩
  simp only [Conv.bytesToString, Sem.run_bind, hm, Result.andThen_ok]
  rw [← Array.forIn_toList, e, bytes_loop (P := P) (w := w) _ (fun x s => by simp [byteC])]
  rfl
theorem VR.ofBytes {s : ByteArray} {l : List UInt8} (e : s.data.toList = l) : VR ρ R (.str l.length (packL l)) (.string s) :=
  .str _ _ _ (by rw [e, unpack_packL]) (packL_lt l)
section
variable {dst : Option Tmp} {ty : TypeId} {pos : String} {af : Array Edge} {g : Option (Nat × Bool)}
theorem strOfBytes_ok {X : AV} {cv : Value} (vx : VR ρ R X cv) (h : evStrOfBytes X st = .ok (v, st')) : st' = st ∧ (∃ b n c, cv = .slice b n c) ∧ ∀ w, Inv P ρ R st.heap w → ∃ s, (Conv.bytesToString cv).run P w = .ok (.string s) w ∧ VR ρ R v (.string s) := by
  cases vx <;> (try simp only [evStrOfBytes] at h) <;> try (cases h; done)
  case nilslice =>
    obtain ⟨rfl, rfl⟩ := ok_inj h
    exact ⟨rfl, ⟨_, _, _, rfl⟩, fun w _ => ⟨.empty, rfl, .str 0 0 _ rfl (by decide)⟩⟩
  case slice id off n cap ex esz l x C hR ha hl hc hx hr =>
    cases hco : cellsOf st.heap id with
    | none => rw [hco] at h; cases h
    | some q =>
      obtain ⟨e, cs, fz⟩ := q
      rw [hco] at h; simp only at h
      cases hp : packFrom cs off 0 0 n with
      | none => rw [hp] at h; cases h
      | some b =>
        rw [hp] at h; simp only at h
        obtain ⟨rfl, rfl⟩ := ok_inj h
        refine ⟨rfl, ⟨_, _, _, rfl⟩, fun w iv => ?_⟩
        obtain ⟨bs, hbl, hbf, e⟩ := packFrom_spec _ _ _ _ _ _ hp
        obtain ⟨c, el, fr, hx, r⟩ := iv.cells (cellsOf_get hco) hR
        obtain ⟨m, hm, hv⟩ := loadCells_ok (P := P) hx r hbf
        have hm' : (loadCells x n).run P w = .ok m w := by
          rcases ha with h0 | rfl
          · have : n = 0 := by omega
            subst this
            have : bs = [] := List.eq_nil_of_length_eq_zero hbl
            subst this
            have : m = #[] := by
              have := hv.length
              simp at this; exact Array.eq_empty_of_size_eq_zero this.symm
            subst this; rfl
          · exact hm
        obtain ⟨s, hs, es⟩ := run_bytesToString (C := C) hm' hv.bytes
        refine ⟨s, hs, ?_⟩
        have := VR.ofBytes (ρ := ρ) (R := R) es
        rw [hbl] at this
        simpa [e] using this
theorem bytesL_spec (n b : Nat) : bytesL b n = (unpack n b).map byteV := by
  induction n generalizing b with
  | zero => rfl
  | succ n ih =>
    simp only [bytesL, unpack, List.map_cons, ih, byteV]
    have : (UInt8.ofNat (b % 256)).toNat = b % 256 := by simp
    rw [this, show Nat.shiftRight b 8 = b / 256 from Nat.shiftRight_eq_div_pow b 8]
    rfl
theorem VRs.ofBytes (l : List UInt8) : VRs ρ R (l.map byteV) (l.map byteC) := by
  induction l with
  | nil => exact .nil
  | cons x l ih => exact .cons _ _ _ _ (.int _ _) ih
theorem CellsR.more {e : Option Nat} {cs : T AV} {l : Loc} {c : Array Value} {el : TypeId} (hg : ∀ i v, cs.get i = some v → ∃ cv, c[i]? = some cv ∧ VR ρ R v cv) (he : e = none) (hb : l.base = 0) (hr : l.room = c.size) {fr : Nat × Nat} (hfr : c.size ≤ fr.1 ∨ fr.2 ≤ fr.1) : CellsR ρ R e cs 0 l c el fr :=
  ⟨fun e' h => (by rw [he] at h; cases h), by omega, fun i v h => by rw [hb, Nat.zero_add]; exact hg i v h, fun i _ h2 h3 => by rcases hfr with h | h <;> omega⟩
theorem bytesOfStr_ok {el : TypeId} {n b : Nat} {s : ByteArray} (hs : s.data.toList = unpack n b) (hn : n ≤ 70368744177664) (iv : Inv P ρ R st.heap w) (hf : Fresh R st.next (st.next + 1)) :
    ∃ cv w' R', (Conv.stringToBytes el s).run P w = .ok cv w' ∧ VR ρ R' (.slice st.next 0 n n false 1) cv ∧
      Step P ρ R st.heap w R' (st.heap.set st.next (.cells none (T.leaf.ofList 0 (bytesL b n)) 0)) w' st.low st.next (st.next + 1) := by
  have hsz := size_of hs
  have hnone : R st.next = none := hf _ (Nat.le_refl _) (Nat.lt_succ_self _)
  obtain ⟨C, hC, hC2⟩ : ∃ C, (Question.appendCap s.size 0 el).cut (w.tape w.drawn (.appendCap s.size 0 el)) = C ∧ n ≤ C := ⟨_, rfl, by simp only [Question.cut]; omega⟩
  generalize hw1 : ({ w with drawn := w.drawn + 1 } : World) = w1
  have iv1 : Inv P ρ R st.heap w1 := by subst hw1; exact iv.congr rfl
  have hh : w1.heap = w.heap := by subst hw1; rfl
  generalize hcells : (s.data.map (fun b => Value.int .u8 (b.toNat : Int)) ++ Array.replicate (C - s.size) (.int .u8 0) : Array Value) = cells
  have hcsz : cells.size = C := by rw [← hcells]; have : s.data.size = n := hsz; simp [this, hsz]; omega
  have hget : ∀ R', ∀ i v, (T.leaf.ofList 0 (bytesL b n) : T AV).get i = some v → ∃ cv, cells[i]? = some cv ∧ VR ρ R' v cv := by
    intro R' i v hi
    rw [T.get_ofList] at hi
    split at hi
    · rename_i hr
      simp only [Option.some.injEq] at hi
      have hb := (VRs.ofBytes (ρ := ρ) (R := R') (unpack n b))
      rw [← bytesL_spec] at hb
      have : (bytesL b n)[i]? = some v := by rw [← hi]; simp
      obtain ⟨cv, e, r⟩ := hb.get this
      refine ⟨cv, ?_, r⟩
      have hlt : i < s.data.size := by
        have := (List.getElem?_eq_some_iff.1 e).1
        simp only [List.length_map, unpack_length] at this
        have h2 : s.data.size = n := hsz
        omega
      rw [← hcells, Array.getElem?_append_left (by simpa using hlt), ← e, ← hs]
      simp only [Array.getElem?_map, List.getElem?_map, Array.getElem?_toList]; rfl
    · rw [T.get_leaf] at hi; cases hi
  have step := Step.alloc (P := P) iv1 hnone (l := ⟨w1.heap.size, 0, C⟩) rfl (.cells none _ 0 _ cells el (C, C + 1) (CellsR.more (l := ⟨w1.heap.size, 0, C⟩) (hget _) rfl rfl hcsz.symm (.inl (by simp [hcsz])))) st.low
  refine ⟨.slice (some ⟨w1.heap.size, 0, none⟩) n C, { w1 with heap := w1.heap.push (.cells cells el (C, C + 1)) }, R.upd st.next ⟨w1.heap.size, 0, C⟩, ?_, .slice _ 0 n n false 1 ⟨w1.heap.size, 0, C⟩ _ C (Inj.upd_eq _ _ _) (.inr rfl) (Nat.le_refl _) hC2 (fun h => by cases h) (by simp), ?_⟩
  · simp only [Conv.stringToBytes, Sem.run_bind, run_choose, Question.forced, Bool.false_eq_true, if_false, Result.andThen_ok, hC, hw1, hcells, newRow]
    have hsh : ({ w1 with heap := w1.heap.push (Obj.cells cells el) } : World).shape? w1.heap.size = some (el, C) := by simp [World.shape?, hcsz]
    have hfz : ({ w1 with heap := w1.heap.push (Obj.cells cells el) } : World).freeze { block := w1.heap.size, off := C } 1 = { w1 with heap := w1.heap.push (Obj.cells cells el (C, C + 1)) } := by
      simp only [World.freeze, Nat.one_ne_zero, if_false, World.mk.injEq, and_self, and_true]
      apply Array.ext_getElem?
      intro i
      rw [Array.getElem?_modify]
      by_cases e : w1.heap.size = i
      · subst e; simp
      · simp only [if_neg e, Array.getElem?_push]
        split <;> simp_all
    simp only [run_newObj, Result.andThen_ok, Sem.run_pure, markStringish, Sem.run_bind, run_shape, hsh, run_freeze, hfz, hsz]
  · have s0 := Step.drew iv st.low st.next (w.drawn + 1)
    rw [hw1] at s0
    exact s0.trans step (Nat.le_refl _) (Nat.le_refl _) (Nat.le_succ _)
theorem cellsOf_size {t : TypeId} {n : Nat} (h : sizeOfT P t = some n) : P.cellsOf t = n := by
  obtain ⟨i, hi, rfl⟩ := sizeOfT_some h
  simp [Program.cellsOf, hi]
theorem liesAt_self (P : Program) {e : TypeId} {n : Nat} (h0 : P.cellsOf e ≠ 0) (hn : P.cellsOf e ≤ n) : liesAt P P.depth e (n / P.cellsOf e) 0 e 1 = true := by
  obtain ⟨d, hd⟩ : ∃ d, P.depth = d + 1 := ⟨2 * (P.types.size + Made.depth) + 1, rfl⟩
  rw [hd]
  have h1 : 1 ≤ n / P.cellsOf e := (Nat.one_le_div_iff (by omega)).2 hn
  have hs : sameLayout P P.depth e e = true := by rw [hd]; simp [sameLayout]
  simp [liesAt, rowAt, hd, h0, h1, hd ▸ hs]
theorem conv_ok (C : Ctx ρ R E σ N tm a) {src d : TypeId} {x : Operand} {co : CO} (hc : cConv P E σ src d x = some co) (hcl : opClass co ≠ 0) (h : evOp co tm st call = .ok (v, st')) :
    MemOK P ρ R a ⟨dst, .convert src d x, ty, pos, af, g⟩ st st' v := by
  unfold cConv at hc
  obtain ⟨cx, hx, hc⟩ := bind_some hc
  obtain ⟨u, hu, hc⟩ := bind_some hc
  obtain ⟨u', hu', hc⟩ := bind_some hc
  have vx := C.opnd hx
  split at hc <;> try (cases hc; done)
  · simp only [Option.some.injEq] at hc; subst hc; exact absurd rfl hcl
  · simp only [Option.some.injEq] at hc; subst hc; exact absurd rfl hcl
  · simp only [Option.some.injEq] at hc; subst hc; exact absurd rfl hcl
  · rename_i e
    obtain ⟨ue, hue, hc⟩ := bind_some hc
    split at hc <;> try (cases hc; done)
    simp only [Option.some.injEq] at hc; subst hc
    simp only [evOp, opStrOfBytes, evAK_eq] at h
    obtain ⟨rfl, ⟨qb, qn, qc, hq⟩, hrun⟩ := strOfBytes_ok (P := P) vx h
    refine ⟨Mono.refl _, fun w iv hf => ?_⟩
    obtain ⟨s, hs, hv⟩ := hrun w iv
    refine ⟨.string s, w, R, .inl ?_, hv, Step.refl iv _ _⟩
    have hcv : (convert src d (a.eval x)).run P w = (Conv.bytesToString (a.eval x)).run P w := by
      simp [hq, convert, run_und hu, run_und hu', run_und hue]
    simp only [execOp, Sem.run_bind, hcv, hs]; rfl
  · rename_i e _
    obtain ⟨ue, hue, hc⟩ := bind_some hc
    split at hc <;> try (cases hc; done)
    simp only [Option.some.injEq] at hc; subst hc
    simp only [evOp, opBytesOfStr, evAK_eq] at h
    generalize evA tm cx = X at vx h
    generalize hqx : a.eval x = cvx at vx
    cases vx <;> (try simp only at h) <;> try (cases h; done)
    case str n b s hs hb =>
    split at h
    · rename_i hle
      have hle := ble_true hle
      simp only [T.ofListK_eq, St.newK_eq] at h
      obtain ⟨rfl, rfl⟩ := ok_inj h
      refine ⟨Mono.new _ _, fun w iv hf => ?_⟩
      obtain ⟨cv, w', R', h1, h2, h3⟩ := bytesOfStr_ok (P := P) (el := e) hs hle iv hf
      refine ⟨cv, w', R', .inl ?_, h2, h3⟩
      simp [execOp, hqx, convert, run_und hu, run_und hu', run_und hue, h1]
    · cases h
  · obtain ⟨n, hn, hc⟩ := bind_some hc
    split at hc <;> try (cases hc; done)
    rename_i hne
    simp only [Option.some.injEq] at hc; subst hc
    simp only [evOp, opUnsafeTo, evAK_eq] at h
    generalize evA tm cx = X at vx h
    generalize hqx : a.eval x = cvx at vx
    cases vx <;> (try simp only at h) <;> try (cases h; done)
    case nilptr =>
      obtain ⟨rfl, rfl⟩ := ok_inj h
      refine ⟨Mono.refl _, fun w iv hf => ⟨.pointer none, w, R, .inl ?_, .nilptr, Step.refl iv _ _⟩⟩
      simp [execOp, hqx, convert, run_und hu, run_und hu', Conv.unsafePointer]
    case ptr id off l hR =>
      split at h
      · rename_i q hl
        obtain ⟨rfl, rfl⟩ := ok_inj h
        refine ⟨Mono.refl _, fun w iv hf => ⟨.pointer (some ⟨l.b, l.base + off, none⟩), w, R, .inl ?_, .ptr id off l hR, Step.refl iv _ _⟩⟩
        unfold load1At at hl
        split at hl
        · rename_i e' cs fz hg
          obtain ⟨c, el, fr, hx', r⟩ := iv.cells hg hR
          obtain ⟨cv, hcv, rv⟩ := r.rel off _ hl
          have hlt := (Array.getElem?_eq_some_iff.1 hcv).1
          have hsh := shape_of hx'
          have hlt' : ¬ (c.size ≤ l.base + off) := by omega
          simp [execOp, hqx, convert, run_und hu, run_und hu', Conv.unsafePointer, Conv.seenAt, viewAt, hsh, cellsIn, run_size hn, hne, hlt']
        · cases hl
      · cases h
  · obtain ⟨n, hn, hc⟩ := bind_some hc
    split at hc <;> try (cases hc; done)
    rename_i hne
    obtain ⟨n', hn', hc⟩ := bind_some hc
    simp only [Option.some.injEq] at hc; subst hc
    have : n' = n := by rw [hn] at hn'; injection hn' with e; exact e.symm
    subst this
    simp only [evOp, opUnsafeFrom, evAK_eq] at h
    generalize evA tm cx = X at vx h
    generalize hqx : a.eval x = cvx at vx
    cases vx <;> (try simp only at h) <;> try (cases h; done)
    case nilptr =>
      obtain ⟨rfl, rfl⟩ := ok_inj h
      refine ⟨Mono.refl _, fun w iv hf => ⟨.pointer none, w, R, .inl ?_, .nilptr, Step.refl iv _ _⟩⟩
      simp [execOp, hqx, convert, run_und hu, run_und hu', Conv.unsafePointer]
    case ptr id off l hR =>
      cases off with
      | succ off => simp only at h; cases h
      | zero =>
      simp only at h
      split at h
      · rename_i e' cs fz hg
        split at h
        · rename_i x1 x2 hbe hcs
          have he := beq_true hbe
          subst he
          obtain ⟨rfl, rfl⟩ := ok_inj h
          refine ⟨Mono.refl _, fun w iv hf => ⟨.pointer (some ⟨l.b, l.base + 0, none⟩), w, R, .inl ?_, .ptr id 0 l hR, Step.refl iv _ _⟩⟩
          obtain ⟨c, el, fr, hx', r⟩ := iv.cells (cellsOf_get hg) hR
          obtain ⟨rfl, hb, _⟩ := r.elem _ rfl
          obtain ⟨cv, hcv, rv⟩ := r.rel _ _ hcs
          have hlt := (Array.getElem?_eq_some_iff.1 hcv).1
          have hsh := shape_of hx'
          have hlies : liesAt P P.depth el (c.size / P.cellsOf el) 0 el 1 = true := liesAt_self P (by rw [cellsOf_size hn]; exact hne) (by rw [cellsOf_size hn]; omega)
          have hb0 : l.base = 0 := hb
          simp [execOp, hqx, convert, run_und hu, run_und hu', Conv.unsafePointer, Conv.seenAt, viewAt, hsh, variablesAt, hb0, hlies, run_size hn, hne]
        · cases h
      · cases h
end
end
end Go.Ab

namespace Go.Ab
section
variable {P : Program} {ρ : Nat → Int} {R : Inj} {E : T Unit} {σ : Sub} {N : Nat} {tm : T AV} {a : Act} {st st' : St} {v : AV} {call : CallV} {h : T AObj} {w : World}
theorem keyOk_some {t : TypeId} {s : Bool} (h : keyOk P t = some s) : ∃ u, P.underlying t = some u ∧ ((s = false ∧ ∃ k, u = .int k) ∨ (s = true ∧ u = .string)) := by
  unfold keyOk at h
  split at h
  · rename_i k hu; injection h with h; exact ⟨_, hu, .inl ⟨h.symm, _, rfl⟩⟩
  · rename_i hu; injection h with h; exact ⟨_, hu, .inr ⟨h.symm, rfl⟩⟩
  · cases h
def FR (ρ : Nat → Int) (R : Inj) : Option (Nat × AV) → Option (Nat × Value) → Prop
  | none, none => True
  | some (i, v), some (j, cv) => i = j ∧ VR ρ R v cv
  | _, _ => False
theorem sameKey_ok {s : Bool} {u : TypeDesc} (hu : (s = false ∧ ∃ k, u = .int k) ∨ (s = true ∧ u = .string)) {k x : AV} {ck cx : Value} (hk : VR ρ R k ck) (hx : VR ρ R x cx) (hs : keyIs s k = true) {b : Bool} (h : sameKey k x = some b) :
    Instr.sameNow u ck cx = some b := by
  cases hk <;> (try simp only [sameKey] at h) <;> try (cases h; done)
  case int k n =>
    cases hx <;> (try simp only at h) <;> try (cases h; done)
    case int j m =>
    split at h
    · rename_i hkq
      injection h with h
      rcases hu with ⟨rfl, kk, rfl⟩ | ⟨rfl, rfl⟩
      · have := keq_true hkq
        subst this
        simp only [Instr.sameNow, if_true]
        rw [← h, ieq_eq]
        rfl
      · cases hs
    · cases h
  case str n b s' hs' hb =>
    cases hx <;> (try simp only at h) <;> try (cases h; done)
    case str m c s'' hs'' hc =>
    injection h with h
    rcases hu with ⟨rfl, kk, rfl⟩ | ⟨rfl, rfl⟩
    · cases hs
    · simp only [Instr.sameNow]
      have hEq : (s' == s'') = (Nat.beq n m && Nat.beq b c) := by
        rw [beq_iff, beq_iff, ← Bool.decide_and, bytes_beq, hs', hs'']
        exact decide_eq_decide.2 (unpack_eq hb hc)
      rw [← h, hEq]
theorem findKey_ok {s : Bool} {u : TypeDesc} (hu : (s = false ∧ ∃ k, u = .int k) ∨ (s = true ∧ u = .string)) {k : AV} {ck : Value} (hk : VR ρ R k ck) (hs : keyIs s k = true) :
    ∀ (es : List (AV × AV × Nat)) (ces : List MapEntry), ERs ρ R es ces → ∀ (i : Nat) (r : Option (Nat × AV)), findKey k es i = some r → ∃ cr, Instr.findNow u ck ces i = some cr ∧ FR ρ R r cr := by
  intro es ces he
  induction he with
  | nil =>
    intro i r h
    simp only [findKey] at h
    have : r = none := by split at h <;> first | (injection h with h; exact h.symm) | cases h
    subst this
    exact ⟨none, rfl, trivial⟩
  | cons a e l m ha _ ih =>
    intro i r h
    cases ha with
    | mk x v b cx cv hx hv =>
    simp only [findKey] at h
    split at h
    · rename_i hsk
      injection h with h; subst h
      exact ⟨some (i, cv), by simp [Instr.findNow, sameKey_ok hu hk hx hs hsk], rfl, hv⟩
    · rename_i hsk
      obtain ⟨cr, h1, h2⟩ := ih _ _ h
      exact ⟨cr, by simp [Instr.findNow, sameKey_ok hu hk hx hs hsk, h1], h2⟩
    · cases h
theorem run_findKey {s : Bool} {t : TypeId} (ht : keyOk P t = some s) {k : AV} {ck : Value} (hk : VR ρ R k ck) (hs : keyIs s k = true) {es : List (AV × AV × Nat)} {ces : List MapEntry} (he : ERs ρ R es ces) {r : Option (Nat × AV)} (h : findKey k es 0 = some r) :
    ∃ cr, (∀ w, (Instr.findKey t ck ces).run P w = .ok cr w) ∧ FR ρ R r cr := by
  obtain ⟨u, hu, hk'⟩ := keyOk_some ht
  obtain ⟨cr, h1, h2⟩ := findKey_ok hk' hk hs _ _ he 0 r h
  exact ⟨cr, fun w => by simp [Instr.findKey, run_und hu, h1], h2⟩
theorem run_checkKey {s : Bool} {t : TypeId} (ht : keyOk P t = some s) (b : Bool) (ck : Value) (w : World) : (Instr.checkKey b 10000 t ck).run P w = .ok () w := by
  obtain ⟨u, hu, hk'⟩ := keyOk_some ht
  obtain ⟨n, hn⟩ : ∃ n, n + 1 = 10000 := ⟨9999, rfl⟩
  rw [← hn]
  rcases hk' with ⟨_, k, rfl⟩ | ⟨_, rfl⟩
  · simp [Instr.checkKey, run_und hu]
  · simp [Instr.checkKey, run_und hu]
theorem Inv.map (i : Inv P ρ R h w) {id : Nat} {es : List (AV × AV × Nat)} {clock : Nat} (hg : h.get id = some (.map es clock)) {l : Loc} (hR : R id = some l) :
    ∃ ces, w.heap[l.b]? = some (.map ces clock) ∧ ERs ρ R es ces.toList := by
  obtain ⟨x, hx, r⟩ := i.at hg hR
  cases r with
  | map _ _ _ ces r => exact ⟨ces, hx, r⟩
theorem run_getObj' {r : Nat} {o : Obj} (hb : w.heap[r]? = some o) (hc : ∀ c e f, o ≠ .cells c e f) : (getObj r).run P w = .ok o w := by
  simp only [getObj, Sem.run, hb]
theorem run_setObj {r : Nat} {o o' : Obj} (hb : w.heap[r]? = some o) (hc : ∀ c e f, o ≠ .cells c e f) : (setObj r o').run P w = .ok () { w with heap := w.heap.setIfInBounds r o' } := by
  simp only [setObj, Sem.run, hb]
theorem ERs.length {es : List (AV × AV × Nat)} {ces : List MapEntry} (h : ERs ρ R es ces) : es.length = ces.length := by
  induction h with
  | nil => rfl
  | cons _ _ _ _ _ _ ih => simp [ih]
theorem ERs.snoc {es : List (AV × AV × Nat)} {ces : List MapEntry} (h : ERs ρ R es ces) {a : AV × AV × Nat} {e : MapEntry} (ha : ER ρ R a e) : ERs ρ R (snoc es a) (ces ++ [e]) := by
  induction h with
  | nil => exact .cons _ _ _ _ ha .nil
  | cons _ _ _ _ h _ ih => exact .cons _ _ _ _ h ih
theorem ERs.set {es : List (AV × AV × Nat)} {ces : List MapEntry} (h : ERs ρ R es ces) {k v : AV} {ck cv : Value} (hk : VR ρ R k ck) (hv : VR ρ R v cv) (i : Nat) :
    ERs ρ R (setEntry es i k v) (ces.modify i fun e => { e with key := ck, val := cv }) := by
  induction h generalizing i with
  | nil => simpa [setEntry] using ERs.nil
  | cons a e l m ha _ ih =>
    cases ha with
    | mk x w b cx cw _ _ =>
    cases i with
    | zero => exact .cons _ _ _ _ (.mk k v b ck cv hk hv) ‹_›
    | succ i => exact .cons _ _ _ _ (.mk x w b cx cw ‹_› ‹_›) (ih i)
theorem ERs.del {es : List (AV × AV × Nat)} {ces : List MapEntry} (h : ERs ρ R es ces) (i : Nat) : ERs ρ R (delEntry es i) (ces.eraseIdx i) := by
  induction h generalizing i with
  | nil => simpa [delEntry] using ERs.nil
  | cons a e l m ha hs ih =>
    cases i with
    | zero => exact hs
    | succ i => exact .cons _ _ _ _ ha (ih i)
section
variable {dst : Option Tmp} {ty : TypeId} {pos : String} {af : Array Edge} {g : Option (Nat × Bool)}
theorem cLookup_ok (C : Ctx ρ R E σ N tm a) {t : TypeId} {m k : Operand} {ok : Bool} {co : CO} (hc : cOp P E σ ⟨dst, .lookup t m k ok, ty, pos, af, g⟩ = some co) (h : evOp co tm st call = .ok (v, st')) : MemOK P ρ R a ⟨dst, .lookup t m k ok, ty, pos, af, g⟩ st st' v := by
  simp only [cOp] at hc
  obtain ⟨u, hu, hc⟩ := bind_some hc
  cases u <;> simp only at hc <;> try (cases hc; done)
  case map key e =>
  obtain ⟨s, hs, hc⟩ := bind_some hc
  obtain ⟨z, hz, hc⟩ := bind_some hc
  obtain ⟨cm, hm, hc⟩ := bind_some hc
  obtain ⟨ck, hk, hc⟩ := bind_some hc
  simp only [Option.some.injEq] at hc; subst hc
  obtain ⟨i, zv, hi, hzv, hcv⟩ := zeroOf_some hz
  have vz : VR ρ R z zv := cVal_ok 4 hcv
  simp only [evOp, opLookup, evAK_eq] at h
  have vm := C.opnd hm
  have vk := C.opnd hk
  generalize evA tm cm = X at vm h
  generalize evA tm ck = Y at vk h
  generalize hqx : a.eval m = cvx at vm
  generalize hqy : a.eval k = cvy at vk
  split at h
  · rename_i hks
    have hzr : ∀ w, (zeroValue e).run P w = .ok zv w := fun w => by simp [zeroValue, run_info hi, hzv]
    have fin : ∀ (ces : List MapEntry) (es : List (AV × AV × Nat)), ERs ρ R es ces → retFind z ok st (findKey Y es 0) = .ok (v, st') →
        ∃ cr, (∀ w, (Instr.findKey key cvy ces).run P w = .ok cr w) ∧ ((cr = none ∧ VR ρ R v (if ok then .tuple #[zv, .bool false] else zv)) ∨ ∃ j cx, cr = some (j, cx) ∧ VR ρ R v (if ok then .tuple #[cx, .bool true] else cx)) := by
      intro ces es he hr
      cases hf : findKey Y es 0 with
      | none => rw [hf] at hr; cases hr
      | some r =>
        rw [hf] at hr
        obtain ⟨cr, h1, h2⟩ := run_findKey hs vk hks he hf
        refine ⟨cr, h1, ?_⟩
        cases r with
        | none =>
          obtain ⟨rfl, rfl⟩ := ok_inj hr
          cases cr with
          | some _ => cases h2
          | none =>
            refine .inl ⟨rfl, ?_⟩
            cases ok with
            | true => exact .tuple _ _ (.cons _ _ _ _ vz (.cons _ _ _ _ (.bool _) .nil))
            | false => exact vz
        | some q =>
          obtain ⟨j, x⟩ := q
          obtain ⟨rfl, rfl⟩ := ok_inj hr
          cases cr with
          | none => cases h2
          | some q =>
            obtain ⟨j', cx⟩ := q
            obtain ⟨_, hx⟩ := h2
            refine .inr ⟨_, _, rfl, ?_⟩
            cases ok with
            | true => exact .tuple _ _ (.cons _ _ _ _ hx (.cons _ _ _ _ (.bool _) .nil))
            | false => exact hx
    have hst : ∀ es, retFind z ok st (findKey Y es 0) = .ok (v, st') → st' = st := by
      intro es hr
      unfold retFind at hr
      split at hr
      · exact (ok_inj hr).2.symm
      · exact (ok_inj hr).2.symm
      · cases hr
    cases vm <;> (try simp only [evLookup] at h) <;> try (cases h; done)
    case nilmap =>
      obtain ⟨cr, hrun, hcr⟩ := fin [] [] .nil h
      have := hst _ h; subst this
      refine ⟨Mono.refl _, fun w iv hf => ?_⟩
      rcases hcr with ⟨rfl, hv⟩ | ⟨j, cx, rfl, hv⟩
      · exact ⟨_, w, R, .inl (by simp [execOp, hqx, hqy, Instr.lookup, run_und hu, run_checkKey hs, hrun, hzr]), hv, Step.refl iv _ _⟩
      · exact ⟨_, w, R, .inl (by simp [execOp, hqx, hqy, Instr.lookup, run_und hu, run_checkKey hs, hrun]), hv, Step.refl iv _ _⟩
    case map id l hR =>
      split at h
      · rename_i es clock hg
        have := hst _ h; subst this
        refine ⟨Mono.refl _, fun w iv hf => ?_⟩
        obtain ⟨ces, hx, he⟩ := iv.map hg hR
        obtain ⟨cr, hrun, hcr⟩ := fin _ _ he h
        have hgo : (getObj l.b).run P w = .ok (.map ces clock) w := run_getObj' hx (by intros; simp)
        rcases hcr with ⟨rfl, hv⟩ | ⟨j, cx, rfl, hv⟩
        · exact ⟨_, w, R, .inl (by simp [execOp, hqx, hqy, Instr.lookup, run_und hu, run_checkKey hs, hgo, hrun, hzr]), hv, Step.refl iv _ _⟩
        · exact ⟨_, w, R, .inl (by simp [execOp, hqx, hqy, Instr.lookup, run_und hu, run_checkKey hs, hgo, hrun]), hv, Step.refl iv _ _⟩
      · cases h
  · cases h
theorem run_keyThatStays {s : Bool} {k x : AV} {old new : Value} (hk : VR ρ R k new) (hx : VR ρ R x old) (hs : keyIs s k = true) (h : sameKey k x = some true) (w : World) : (Instr.keyThatStays old new).run P w = .ok new w := by
  have : Instr.sameBits 10000 old new = true := by
    cases hk <;> (try simp only [sameKey] at h) <;> try (cases h; done)
    case int k n =>
      cases hx <;> (try simp only at h) <;> try (cases h; done)
      case int j m =>
      split at h
      · rename_i hkq
        injection h with h
        have := keq_true hkq
        subst this
        rw [ieq_eq] at h
        have := of_decide_eq_true h
        subst this
        simp [Instr.sameBits]
      · cases h
    case str n b s' hs' hb =>
      cases hx <;> (try simp only at h) <;> try (cases h; done)
      case str m c s'' hs'' hc =>
      injection h with h
      have hEq : (s'' == s') = (Nat.beq n m && Nat.beq b c) := by
        rw [beq_iff, beq_iff, ← Bool.decide_and, bytes_beq, hs', hs'']
        rw [decide_eq_decide, eq_comm]
        exact unpack_eq hb hc
      simp only [Instr.sameBits]
      rw [hEq, h]
  simp [Instr.keyThatStays, this]
theorem findKey_at {k : AV} : ∀ (es : List (AV × AV × Nat)) (i j : Nat) (v : AV), findKey k es i = some (some (j, v)) → i ≤ j ∧ ∃ x b, es[j - i]? = some (x, v, b) ∧ sameKey k x = some true := by
  intro es
  induction es with
  | nil => intro i j v h; simp only [findKey] at h; split at h <;> cases h
  | cons a es ih =>
    intro i j v h
    obtain ⟨x, y, b⟩ := a
    simp only [findKey] at h
    split at h
    · rename_i hsk
      simp only [Option.some.injEq, Prod.mk.injEq] at h
      obtain ⟨rfl, rfl⟩ := h
      exact ⟨Nat.le_refl _, x, b, by simp, hsk⟩
    · obtain ⟨h1, x', b', h2, h3⟩ := ih _ _ _ h
      refine ⟨by omega, x', b', ?_, h3⟩
      obtain ⟨d, rfl⟩ : ∃ d, j = i + 1 + d := ⟨j - (i + 1), by omega⟩
      have e1 : i + 1 + d - (i + 1) = d := by omega
      have e2 : i + 1 + d - i = d + 1 := by omega
      rw [e1] at h2; rw [e2]; simpa using h2
    · cases h
theorem ERs.get {es : List (AV × AV × Nat)} {ces : List MapEntry} (h : ERs ρ R es ces) {i : Nat} {a : AV × AV × Nat} (hi : es[i]? = some a) : ∃ e, ces[i]? = some e ∧ ER ρ R a e := by
  induction h generalizing i with
  | nil => simp at hi
  | cons _ _ _ _ h _ ih =>
    cases i with
    | zero => simp only [List.getElem?_cons_zero, Option.some.injEq] at hi; subst hi; exact ⟨_, rfl, h⟩
    | succ i => simp only [List.getElem?_cons_succ] at hi ⊢; exact ih hi
theorem mapUpd_run {t key e : TypeId} {s : Bool} (hu : P.underlying t = some (.map key e)) (hs : keyOk P key = some s) {M K V : AV} {cm ck cv : Value} (vm : VR ρ R M cm) (vk : VR ρ R K ck) (vv : VR ρ R V cv) (hks : keyIs s K = true) (h : evMapUpd M K V st = .ok (v, st')) :
    v = undef ∧ Mono st st' ∧ st'.next = st.next ∧ ∀ w, Inv P ρ R st.heap w → ∃ w', (Instr.mapUpdate t cm ck cv).run P w = .ok () w' ∧ Step P ρ R st.heap w R st'.heap w' st'.low st.next st.next := by
  cases vm <;> (try simp only [evMapUpd] at h) <;> try (cases h; done)
  case map id l hR =>
  split at h
  · rename_i es clock hg
    split at h
    · rename_i i old hfk
      simp only [St.putK_eq] at h
      obtain ⟨rfl, rfl⟩ := ok_inj h
      refine ⟨rfl, Mono.put _ _ _, rfl, fun w iv => ?_⟩
      obtain ⟨ces, hx, he⟩ := iv.map hg hR
      have hgo : (getObj l.b).run P w = .ok (.map ces clock) w := run_getObj' hx (by intros; simp)
      obtain ⟨cr, hrun, hcr⟩ := run_findKey hs vk hks he hfk
      obtain ⟨_, x, b, hat, hsk⟩ := findKey_at _ _ _ _ hfk
      obtain ⟨e', hce, her⟩ := he.get hat
      cases her with
      | mk _ _ _ ckx cvx hkx _ =>
      cases cr with
      | none => cases hcr
      | some q =>
        obtain ⟨j, cx⟩ := q
        obtain ⟨rfl, _⟩ := hcr
        have hce' : ces[i]? = some ⟨ckx, cvx, b⟩ := by simpa using hce
        have hst : ∀ w, (Instr.keyThatStays ckx ck).run P w = .ok ck w := fun w => run_keyThatStays vk hkx hks hsk w
        refine ⟨_, by simp only [Instr.mapUpdate, Sem.run_bind, run_und hu, Result.andThen_ok, hgo, run_checkKey hs, hrun, hce', Option.map_some, Option.getD_some, hst, run_setObj hx (by intros; simp)]; rfl, Step.write iv hg hR (.map _ _ _ _ ?_) (lowered_le _ _).2⟩
        have := he.set vk vv i
        simpa using this
    · rename_i hfk
      simp only [St.putK_eq] at h
      obtain ⟨rfl, rfl⟩ := ok_inj h
      refine ⟨rfl, Mono.put _ _ _, rfl, fun w iv => ?_⟩
      obtain ⟨ces, hx, he⟩ := iv.map hg hR
      have hgo : (getObj l.b).run P w = .ok (.map ces clock) w := run_getObj' hx (by intros; simp)
      obtain ⟨cr, hrun, hcr⟩ := run_findKey hs vk hks he hfk
      cases cr with
      | some _ => cases hcr
      | none =>
        refine ⟨_, by simp only [Instr.mapUpdate, Sem.run_bind, run_und hu, Result.andThen_ok, hgo, run_checkKey hs, hrun, run_setObj hx (by intros; simp)]; rfl, Step.write iv hg hR (.map _ _ _ _ ?_) (lowered_le _ _).2⟩
        have := he.snoc (.mk K V clock ck cv vk vv)
        simpa using this
    · cases h
  · cases h
theorem cMapUpd {t : TypeId} {m k x : Operand} {co : CO} (hc : cOp P E σ ⟨dst, .mapUpdate t m k x, ty, pos, af, g⟩ = some co) : ∃ key e s cm ck cx, P.underlying t = some (.map key e) ∧ keyOk P key = some s ∧ cOpnd E σ m = some cm ∧ cOpnd E σ k = some ck ∧ cOpnd E σ x = some cx ∧ co = .mapUpd s cm ck cx := by
  simp only [cOp] at hc
  obtain ⟨u, hu, hc⟩ := bind_some hc
  cases u <;> simp only at hc <;> try (cases hc; done)
  case map key e =>
  obtain ⟨s, hs, hc⟩ := bind_some hc
  obtain ⟨cm, hm, hc⟩ := bind_some hc
  obtain ⟨ck, hk, hc⟩ := bind_some hc
  obtain ⟨cx, hx, hc⟩ := bind_some hc
  simp only [Option.some.injEq] at hc; subst hc
  exact ⟨key, e, s, cm, ck, cx, hu, hs, hm, hk, hx, rfl⟩
theorem mapUpd_ok (C : Ctx ρ R E σ N tm a) {t : TypeId} {m k x : Operand} {co : CO} (hc : cOp P E σ ⟨dst, .mapUpdate t m k x, ty, pos, af, g⟩ = some co) (h : evOp co tm st call = .ok (v, st')) : MemOK P ρ R a ⟨dst, .mapUpdate t m k x, ty, pos, af, g⟩ st st' v := by
  obtain ⟨key, e, s, cm, ck, cx, hu, hs, hm, hk, hx, rfl⟩ := cMapUpd hc
  simp only [evOp, opMapUpd, evAK_eq] at h
  split at h
  · rename_i hks
    obtain ⟨rfl, hmono, hn, hrun⟩ := mapUpd_run (P := P) hu hs (C.opnd hm) (C.opnd hk) (C.opnd hx) hks h
    refine ⟨hmono, fun w iv hf => ?_⟩
    obtain ⟨w', hr, hst⟩ := hrun w iv
    exact ⟨Go.undef, w', R, .inr ⟨by simp only [execOp, Sem.run_bind, hr]; rfl, rfl⟩, VR.undef, by rw [hn]; exact hst⟩
  · cases h
theorem insert_ok (C : Ctx ρ R E σ N tm a) {t : TypeId} {m k x : Operand} {co : CO} (hc : cOp P E σ ⟨dst, .insert t m k x, ty, pos, af, g⟩ = some co) (h : evOp co tm st call = .ok (v, st')) : MemOK P ρ R a ⟨dst, .insert t m k x, ty, pos, af, g⟩ st st' v := by
  obtain ⟨h1, h2⟩ := mapUpd_ok (dst := dst) (ty := ty) (pos := pos) (af := af) (g := g) C (t := t) (m := m) (k := k) (x := x) hc h
  exact ⟨h1, h2⟩
theorem range_ok (C : Ctx ρ R E σ N tm a) {t : TypeId} {x : Operand} {co : CO} (hc : cOp P E σ ⟨dst, .range t x, ty, pos, af, g⟩ = some co) (h : evOp co tm st call = .ok (v, st')) : MemOK P ρ R a ⟨dst, .range t x, ty, pos, af, g⟩ st st' v := by
  simp only [cOp] at hc
  obtain ⟨u, hu, hc⟩ := bind_some hc
  have new : ∀ (o : AObj) (ob : Obj) (w : World), Inv P ρ R st.heap w → Fresh R st.next (st.next + 1) → (∀ l, l.base = 0 → OR P ρ (R.upd st.next l) o l ob) →
      VR ρ (R.upd st.next ⟨w.heap.size, 0, 0⟩) (.ptr st.next 0) (.pointer (some ⟨w.heap.size, 0, none⟩)) ∧ Step P ρ R st.heap w (R.upd st.next ⟨w.heap.size, 0, 0⟩) (st.heap.set st.next o) { w with heap := w.heap.push ob } st.low st.next (st.next + 1) := by
    intro o ob w iv hf ho
    exact ⟨.ptr _ 0 ⟨w.heap.size, 0, 0⟩ (Inj.upd_eq _ _ _), Step.alloc iv (hf _ (Nat.le_refl _) (Nat.lt_succ_self _)) rfl (ho _ rfl) _⟩
  cases u <;> simp only at hc <;> try (cases hc; done)
  case string =>
    obtain ⟨cx, hx, hc⟩ := bind_some hc
    simp only [Option.some.injEq] at hc; subst hc
    simp only [evOp, opRange, evAK_eq] at h
    have vx := C.opnd hx
    generalize evA tm cx = X at vx h
    generalize hqx : a.eval x = cvx at vx
    cases vx <;> (try simp only at h) <;> try (cases h; done)
    case str n b s hs hb =>
    simp only [St.newK_eq] at h
    obtain ⟨rfl, rfl⟩ := ok_inj h
    refine ⟨Mono.new _ _, fun w iv hf => ?_⟩
    obtain ⟨h1, h2⟩ := new (.strIter n b 0) (.stringIter s 0) w iv hf (fun l hl => .strIter n b 0 l s hs hl)
    exact ⟨_, _, _, .inl (by simp only [execOp, hqx, Instr.range, Sem.run_bind, run_und hu, Result.andThen_ok, Sem.run_pure, run_newObj]), h1, h2⟩
  case map key e =>
    obtain ⟨cx, hx, hc⟩ := bind_some hc
    simp only [Option.some.injEq] at hc; subst hc
    simp only [evOp, opRange, evAK_eq] at h
    have vx := C.opnd hx
    generalize evA tm cx = X at vx h
    generalize hqx : a.eval x = cvx at vx
    cases vx <;> (try simp only at h) <;> try (cases h; done)
    case nilmap =>
      simp only [St.newK_eq] at h
      obtain ⟨rfl, rfl⟩ := ok_inj h
      refine ⟨Mono.new _ _, fun w iv hf => ?_⟩
      obtain ⟨h1, h2⟩ := new (.mapIter none 0 [] 0) (.mapIter none 0 #[] 0) w iv hf (fun l hl => .mapIter none 0 [] 0 l none rfl hl)
      exact ⟨_, _, _, .inl (by simp only [execOp, hqx, Instr.range, Sem.run_bind, run_und hu, Result.andThen_ok, Sem.run_pure, run_newObj]), h1, h2⟩
    case map id l hR =>
      split at h
      · rename_i es clock hg
        simp only [St.newK_eq] at h
        obtain ⟨rfl, rfl⟩ := ok_inj h
        refine ⟨Mono.new _ _, fun w iv hf => ?_⟩
        obtain ⟨ces, hx, he⟩ := iv.map hg hR
        have hgo : (getObj l.b).run P w = .ok (.map ces clock) w := run_getObj' hx (by intros; simp)
        have hne : id ≠ st.next := fun e => by rw [e, hf _ (Nat.le_refl _) (Nat.lt_succ_self _)] at hR; cases hR
        obtain ⟨h1, h2⟩ := new (.mapIter (some id) clock [] clock) (.mapIter (some l.b) clock #[] clock) w iv hf (fun l' hl' => .mapIter (some id) clock [] clock l' (some l.b) ⟨l, by rw [Inj.upd_ne _ _ hne]; exact hR, rfl⟩ hl')
        exact ⟨_, _, _, .inl (by simp only [execOp, hqx, Instr.range, Sem.run_bind, run_und hu, Result.andThen_ok, hgo, Sem.run_pure, run_newObj]), h1, h2⟩
      · cases h
end
end
end Go.Ab

namespace Go.Ab
section
variable {P : Program} {ρ : Nat → Int} {R : Inj} {E : T Unit} {σ : Sub} {N : Nat} {tm : T AV} {a : Act} {st st' : St} {v : AV} {call : CallV} {h : T AObj} {w : World}
variable {dst : Option Tmp} {ty : TypeId} {pos : String} {af : Array Edge} {g : Option (Nat × Bool)}
theorem Inv.strIter (i : Inv P ρ R h w) {id n b pos : Nat} (hg : h.get id = some (.strIter n b pos)) {l : Loc} (hR : R id = some l) :
    ∃ s, w.heap[l.b]? = some (.stringIter s pos) ∧ s.data.toList = unpack n b ∧ l.base = 0 := by
  obtain ⟨x, hx, r⟩ := i.at hg hR
  cases r with
  | strIter _ _ _ _ s hs hb => exact ⟨s, hx, hs, hb⟩
def MapAt (R : Inj) : Option Nat → Option Nat → Prop
  | none, cm => cm = none
  | some id, cm => ∃ l, R id = some l ∧ cm = some l.b
theorem Inv.mapIter (i : Inv P ρ R h w) {id : Nat} {m : Option Nat} {since : Nat} {seen : List Nat} {last : Nat} (hg : h.get id = some (.mapIter m since seen last)) {l : Loc} (hR : R id = some l) :
    ∃ cm, w.heap[l.b]? = some (.mapIter cm since seen.toArray last) ∧ MapAt R m cm ∧ l.base = 0 := by
  obtain ⟨x, hx, r⟩ := i.at hg hR
  cases r with
  | mapIter _ _ _ _ _ cm r hb => exact ⟨cm, hx, by cases m <;> exact r, hb⟩
theorem next_ok (C : Ctx ρ R E σ N tm a) {x : Operand} {is : Bool} {co : CO} (hc : cOp P E σ ⟨dst, .next x is, ty, pos, af, g⟩ = some co) (h : evOp co tm st call = .ok (v, st')) : MemOK P ρ R a ⟨dst, .next x is, ty, pos, af, g⟩ st st' v := by
  simp only [cOp] at hc
  obtain ⟨cx, hx, hc⟩ := bind_some hc
  simp only [Option.some.injEq] at hc; subst hc
  simp only [evOp, opNext, evAK_eq] at h
  have vx := C.opnd hx
  generalize evA tm cx = X at vx h
  generalize hqx : a.eval x = cvx at vx
  cases vx <;> (try simp only at h) <;> try (cases h; done)
  case ptr id off l hR =>
  cases off with
  | succ off => simp only at h; cases h
  | zero =>
  simp only at h
  split at h
  · rename_i n b pos hg
    split at h
    · unfold nextStr at h
      split at h
      · rename_i hlt
        have hlt := blt_true hlt
        simp only [forceN_eq] at h
        split at h
        · rename_i hasc
          have hasc := blt_true hasc
          simp only [St.putK_eq] at h
          obtain ⟨rfl, rfl⟩ := ok_inj h
          refine ⟨Mono.put _ _ _, fun w iv hf => ?_⟩
          obtain ⟨s, hx', hs, hb⟩ := iv.strIter hg hR
          have hgo : (getObj l.b).run P w = .ok (.stringIter s pos) w := run_getObj' hx' (by intros; simp)
          have hsz := size_of hs
          have hpos : pos < s.size := by omega
          have hget : s[pos] = UInt8.ofNat (byteAt b pos) := by
            have h1 := unpack_get n b pos hlt
            rw [← hs, Array.getElem?_toList] at h1
            have h2 : s.data[pos]? = some s.data[pos] := Array.getElem?_eq_getElem hpos
            rw [h2] at h1
            injection h1
          have hnat : (s[pos]).toNat = byteAt b pos := by
            rw [hget]
            have := byteAt_lt b pos
            simp
            omega
          have hdec := decode_ascii s pos hpos (by rw [hnat]; exact hasc)
          rw [hnat] at hdec
          refine ⟨.tuple #[.bool true, .int .i64 pos, .int .i32 (byteAt b pos)], { w with heap := w.heap.setIfInBounds l.b (.stringIter s (pos + 1)) }, R, .inl ?_, ?_, Step.write iv hg hR (.strIter n b (pos + 1) l s hs hb) (lowered_le _ _).2⟩
          · simp only [execOp, hqx, Instr.next, hb, Nat.zero_add, Sem.run_bind, hgo, Result.andThen_ok, if_pos hpos, hdec, Sem.run_ite]
            simp only [Sem.run_bind, run_setObj hx' (by intros; simp), Result.andThen_ok, Sem.run_pure, goInt]
          · exact .tuple _ _ (.cons _ _ _ _ (.bool _) (.cons _ _ _ _ (.int _ _) (.cons _ _ _ _ (.int _ _) .nil)))
        · cases h
      · rename_i hlt
        obtain ⟨rfl, rfl⟩ := ok_inj h
        refine ⟨Mono.refl _, fun w iv hf => ?_⟩
        obtain ⟨s, hx', hs, hb⟩ := iv.strIter hg hR
        have hgo : (getObj l.b).run P w = .ok (.stringIter s pos) w := run_getObj' hx' (by intros; simp)
        have hsz := size_of hs
        have hpos : ¬ pos < s.size := by
          intro c
          rw [show Nat.blt pos n = true from Nat.ble_eq_true_of_le (by omega)] at hlt; cases hlt
        refine ⟨.tuple #[.bool false], w, R, .inl ?_, .tuple _ _ (.cons _ _ _ _ (.bool _) .nil), Step.refl iv _ _⟩
        simp only [execOp, hqx, Instr.next, hb, Nat.zero_add, Sem.run_bind, hgo, Result.andThen_ok, if_neg hpos, Sem.run_ite, Sem.run_pure]
    · cases h
  · rename_i m since seen last hg
    split at h
    · cases h
    · split at h
      · obtain ⟨rfl, rfl⟩ := ok_inj h
        refine ⟨Mono.refl _, fun w iv hf => ?_⟩
        obtain ⟨cm, hx', rfl, hb⟩ := iv.mapIter hg hR
        have hgo : (getObj l.b).run P w = .ok (.mapIter none since seen.toArray last) w := run_getObj' hx' (by intros; simp)
        refine ⟨.tuple #[.bool false], w, R, .inl ?_, .tuple _ _ (.cons _ _ _ _ (.bool _) .nil), Step.refl iv _ _⟩
        simp only [execOp, hqx, Instr.next, hb, Nat.zero_add, Sem.run_bind, hgo, Result.andThen_ok, Sem.run_pure]
      · rename_i m
        split at h
        · rename_i es clock hgm
          unfold nextMap at h
          split at h
          · obtain ⟨rfl, rfl⟩ := ok_inj h
            refine ⟨Mono.refl _, fun w iv hf => ?_⟩
            obtain ⟨cm, hx', ⟨lm, hRm, rfl⟩, hb⟩ := iv.mapIter hg hR
            obtain ⟨ces, hxm, he⟩ := iv.map hgm hRm
            have hces : ces = #[] := by
              have := he.length; simp at this; exact Array.eq_empty_of_size_eq_zero this.symm
            subst hces
            have hgo : (getObj l.b).run P w = .ok (.mapIter (some lm.b) since seen.toArray last) w := run_getObj' hx' (by intros; simp)
            have hgm' : (getObj lm.b).run P w = .ok (.map #[] clock) w := run_getObj' hxm (by intros; simp)
            refine ⟨.tuple #[.bool false], w, R, .inl ?_, .tuple _ _ (.cons _ _ _ _ (.bool _) .nil), Step.refl iv _ _⟩
            simp [execOp, hqx, Instr.next, hb, hgo, hgm', Question.forced]
          · rename_i k v' b
            split at h
            · split at h
              · rename_i hbs
                have hbs := blt_true hbs
                simp only [St.putK_eq] at h
                obtain ⟨rfl, rfl⟩ := ok_inj h
                refine ⟨Mono.put _ _ _, fun w iv hf => ?_⟩
                obtain ⟨cm, hx', ⟨lm, hRm, rfl⟩, hb⟩ := iv.mapIter hg hR
                obtain ⟨ces, hxm, he⟩ := iv.map hgm hRm
                obtain ⟨ck, cv, rfl, hk, hv⟩ : ∃ ck cv, ces = #[⟨ck, cv, b⟩] ∧ VR ρ R k ck ∧ VR ρ R v' cv := by
                  obtain ⟨l⟩ := ces
                  cases he with
                  | cons _ e _ m' h1 h2 => cases h2; cases h1 with | mk _ _ _ ck cv h1 h2 => exact ⟨ck, cv, rfl, h1, h2⟩
                have hgo : (getObj l.b).run P w = .ok (.mapIter (some lm.b) since #[] last) w := run_getObj' hx' (by intros; simp)
                have hgm' : (getObj lm.b).run P w = .ok (.map #[⟨ck, cv, b⟩] clock) w := run_getObj' hxm (by intros; simp)
                refine ⟨.tuple #[.bool true, ck, cv], { w with heap := w.heap.setIfInBounds l.b (.mapIter (some lm.b) since #[b] clock) }, R, .inl ?_, .tuple _ _ (.cons _ _ _ _ (.bool _) (.cons _ _ _ _ hk (.cons _ _ _ _ hv .nil))), Step.write iv hg hR (.mapIter (some m) since [b] clock l (some lm.b) ⟨lm, hRm, rfl⟩ hb) (lowered_le _ _).2⟩
                have hnb : ¬ since ≤ b := by omega
                simp [execOp, hqx, Instr.next, hb, hgo, hgm', Question.forced, hbs, hnb, run_setObj hx']
              · cases h
            · rename_i c
              split at h
              · rename_i hbc
                simp only [Bool.and_eq_true] at hbc
                have h1 := beq_true hbc.1
                have h2 := blt_true hbc.2
                subst h1
                obtain ⟨rfl, rfl⟩ := ok_inj h
                refine ⟨Mono.refl _, fun w iv hf => ?_⟩
                obtain ⟨cm, hx', ⟨lm, hRm, rfl⟩, hb⟩ := iv.mapIter hg hR
                obtain ⟨ces, hxm, he⟩ := iv.map hgm hRm
                obtain ⟨ck, cv, rfl, hk, hv⟩ : ∃ ck cv, ces = #[⟨ck, cv, b⟩] ∧ VR ρ R k ck ∧ VR ρ R v' cv := by
                  obtain ⟨l⟩ := ces
                  cases he with
                  | cons _ e _ m' h1 h2 => cases h2; cases h1 with | mk _ _ _ ck cv h1 h2 => exact ⟨ck, cv, rfl, h1, h2⟩
                have hgo : (getObj l.b).run P w = .ok (.mapIter (some lm.b) since #[b] last) w := run_getObj' hx' (by intros; simp)
                have hgm' : (getObj lm.b).run P w = .ok (.map #[⟨ck, cv, b⟩] clock) w := run_getObj' hxm (by intros; simp)
                refine ⟨.tuple #[.bool false], w, R, .inl ?_, .tuple _ _ (.cons _ _ _ _ (.bool _) .nil), Step.refl iv _ _⟩
                simp [execOp, hqx, Instr.next, hb, hgo, hgm', Question.forced, h2]
              · cases h
            · cases h
          · cases h
        · cases h
  · cases h
theorem entry_ok (C : Ctx ρ R E σ N tm a) {x : Operand} {co : CO} (hc : cOp P E σ ⟨dst, .entry x, ty, pos, af, g⟩ = some co) (h : evOp co tm st call = .ok (v, st')) : MemOK P ρ R a ⟨dst, .entry x, ty, pos, af, g⟩ st st' v := by
  simp only [cOp] at hc
  obtain ⟨cx, hx, hc⟩ := bind_some hc
  simp only [Option.some.injEq] at hc; subst hc
  simp only [evOp, opEntry, evAK_eq] at h
  have vx := C.opnd hx
  generalize evA tm cx = X at vx h
  generalize hqx : a.eval x = cvx at vx
  cases vx <;> (try simp only at h) <;> try (cases h; done)
  case ptr id off l hR =>
  cases off with
  | succ off => simp only at h; cases h
  | zero =>
  simp only at h
  split at h
  · rename_i m since c last hg
    split at h
    · rename_i k v' b clock hgm
      split at h
      · rename_i hbc
        simp only [Bool.and_eq_true] at hbc
        have h1 := beq_true hbc.1
        have h2 := beq_true hbc.2
        subst h1; subst h2
        obtain ⟨rfl, rfl⟩ := ok_inj h
        refine ⟨Mono.refl _, fun w iv hf => ?_⟩
        obtain ⟨cm, hx', ⟨lm, hRm, rfl⟩, hb⟩ := iv.mapIter hg hR
        obtain ⟨ces, hxm, he⟩ := iv.map hgm hRm
        obtain ⟨ck, cv, rfl, hk, hv⟩ : ∃ ck cv, ces = #[⟨ck, cv, b⟩] ∧ VR ρ R k ck ∧ VR ρ R v' cv := by
          obtain ⟨l⟩ := ces
          cases he with
          | cons _ e _ m' h1 h2 => cases h2; cases h1 with | mk _ _ _ ck cv h1 h2 => exact ⟨ck, cv, rfl, h1, h2⟩
        have hgo : (getObj l.b).run P w = .ok (.mapIter (some lm.b) since #[b] clock) w := run_getObj' hx' (by intros; simp)
        have hgm' : (getObj lm.b).run P w = .ok (.map #[⟨ck, cv, b⟩] clock) w := run_getObj' hxm (by intros; simp)
        refine ⟨.tuple #[ck, cv], w, R, .inl ?_, .tuple _ _ (.cons _ _ _ _ hk (.cons _ _ _ _ hv .nil)), Step.refl iv _ _⟩
        simp [execOp, hqx, Instr.entry, hb, hgo, hgm']
      · cases h
    · cases h
  · cases h
end
end Go.Ab

namespace Go.Ab
structure BiOK (P : Program) (ρ : Nat → Int) (R : Inj) (b : Builtin) (argTypes : Array TypeId) (ty : TypeId) (args : Array Value) (st st' : St) (v : AV) : Prop where
  mono : Mono st st'
  run : ∀ w, Inv P ρ R st.heap w → Fresh R st.next st'.next → ∃ cv w' R', (∀ q, (builtin b argTypes ty q args).run P w = .ok (.value cv) w') ∧ VR ρ R' v cv ∧ Step P ρ R st.heap w R' st'.heap w' st'.low st.next st'.next
section
variable {P : Program} {ρ : Nat → Int} {R : Inj} {E : T Unit} {σ : Sub} {N : Nat} {tm : T AV} {a : Act} {st st' : St} {v : AV} {call : CallV} {h : T AObj} {w : World}
variable {ty : TypeId} {argTypes : Array TypeId} {X Y : AV} {cx cy : Value}
theorem delete_ok {t key e : TypeId} {s : Bool} (ht : argTypes[0]? = some t) (hu : P.underlying t = some (.map key e)) (hs : keyOk P key = some s) (vx : VR ρ R X cx) (vy : VR ρ R Y cy) (hks : keyIs s Y = true)
    (h : evDelete X Y st = .ok (v, st')) : BiOK P ρ R .delete argTypes ty #[cx, cy] st st' v := by
  cases vx <;> (try simp only [evDelete] at h) <;> try (cases h; done)
  case nilmap =>
    split at h
    · obtain ⟨rfl, rfl⟩ := ok_inj h
      refine ⟨Mono.refl _, fun w iv hf => ⟨.tuple #[], w, R, fun q => ?_, .tuple _ _ .nil, Step.refl iv _ _⟩⟩
      simp [builtin, Builtin.delete_, ht, run_und hu, run_checkKey hs]
    · cases h
  case map id l hR =>
    split at h
    · rename_i es clock hg
      split at h
      · rename_i i old hfk
        simp only [St.putK_eq] at h
        obtain ⟨rfl, rfl⟩ := ok_inj h
        refine ⟨Mono.put _ _ _, fun w iv hf => ?_⟩
        obtain ⟨ces, hx, he⟩ := iv.map hg hR
        have hgo : (getObj l.b).run P w = .ok (.map ces clock) w := run_getObj' hx (by intros; simp)
        obtain ⟨cr, hrun, hcr⟩ := run_findKey hs vy hks he hfk
        cases cr with
        | none => cases hcr
        | some q =>
          obtain ⟨j, cx⟩ := q
          obtain ⟨rfl, _⟩ := hcr
          refine ⟨.tuple #[], { w with heap := w.heap.setIfInBounds l.b (.map (ces.eraseIdxIfInBounds i) clock) }, R, fun q => ?_, .tuple _ _ .nil, Step.write iv hg hR (.map _ _ _ _ ?_) (lowered_le _ _).2⟩
          · simp [builtin, Builtin.delete_, ht, run_und hu, run_checkKey hs, hgo, hrun, run_setObj hx]
          · have := he.del i
            rw [← Array.toList_eraseIdxIfInBounds] at this; exact this
      · rename_i hfk
        simp only [St.putK_eq] at h
        obtain ⟨rfl, rfl⟩ := ok_inj h
        refine ⟨Mono.put _ _ _, fun w iv hf => ?_⟩
        obtain ⟨ces, hx, he⟩ := iv.map hg hR
        have hgo : (getObj l.b).run P w = .ok (.map ces clock) w := run_getObj' hx (by intros; simp)
        obtain ⟨cr, hrun, hcr⟩ := run_findKey hs vy hks he hfk
        cases cr with
        | some _ => cases hcr
        | none =>
          refine ⟨.tuple #[], { w with heap := w.heap.setIfInBounds l.b (.map ces clock) }, R, fun q => ?_, .tuple _ _ .nil, Step.write iv hg hR (.map _ _ _ _ he) (lowered_le _ _).2⟩
          simp [builtin, Builtin.delete_, ht, run_und hu, run_checkKey hs, hgo, hrun, run_setObj hx]
      · cases h
    · cases h
theorem clear_map_ok {t key e : TypeId} (ht : argTypes[0]? = some t) (hu : P.underlying t = some (.map key e)) (vx : VR ρ R X cx) (h : evClear [] X st = .ok (v, st')) : BiOK P ρ R .clear argTypes ty #[cx] st st' v := by
  cases vx <;> (try simp only [evClear] at h) <;> try (cases h; done)
  case nilmap =>
    obtain ⟨rfl, rfl⟩ := ok_inj h
    refine ⟨Mono.refl _, fun w iv hf => ⟨.tuple #[], w, R, fun q => ?_, .tuple _ _ .nil, Step.refl iv _ _⟩⟩
    simp [builtin, Builtin.clear_, ht, run_und hu]
  case nilslice =>
    obtain ⟨rfl, rfl⟩ := ok_inj h
    refine ⟨Mono.refl _, fun w iv hf => ⟨.tuple #[], w, R, fun q => ?_, .tuple _ _ .nil, Step.refl iv _ _⟩⟩
    simp [builtin, Builtin.clear_, ht, run_und hu]
  case map id l hR =>
    split at h
    · rename_i es clock hg
      simp only [St.putK_eq] at h
      obtain ⟨rfl, rfl⟩ := ok_inj h
      refine ⟨Mono.put _ _ _, fun w iv hf => ?_⟩
      obtain ⟨ces, hx, he⟩ := iv.map hg hR
      have hgo : (getObj l.b).run P w = .ok (.map ces clock) w := run_getObj' hx (by intros; simp)
      refine ⟨.tuple #[], { w with heap := w.heap.setIfInBounds l.b (.map #[] clock) }, R, fun q => ?_, .tuple _ _ .nil, Step.write iv hg hR (.map _ _ _ _ .nil) (lowered_le _ _).2⟩
      simp [builtin, Builtin.clear_, ht, run_und hu, hgo, run_setObj hx]
    · cases h
  case slice id off n cap ex esz l x C hR ha hl hc hx hr =>
    cases n with
    | zero =>
      obtain ⟨rfl, rfl⟩ := ok_inj h
      refine ⟨Mono.refl _, fun w iv hf => ⟨.tuple #[], w, R, fun q => ?_, .tuple _ _ .nil, Step.refl iv _ _⟩⟩
      simp [builtin, Builtin.clear_, ht, run_und hu]
    | succ n =>
      simp only at h
      split at h
      · rename_i q1 q2 el cs fz hb hco
        simp only [Bool.and_eq_true] at hb
        have h1 := ble_true hb.1
        have h2 := beq_true hb.2
        simp only [lenL] at h2
        omega
      · cases h
theorem lenMap_ok {t key e : TypeId} (ht : argTypes[0]? = some t) (hu : P.underlying t = some (.map key e)) (vx : VR ρ R X cx) (h : evLenMap X st = .ok (v, st')) : BiOK P ρ R .len argTypes ty #[cx] st st' v := by
  cases vx <;> (try simp only [evLenMap] at h) <;> try (cases h; done)
  case nilmap =>
    obtain ⟨rfl, rfl⟩ := ok_inj h
    refine ⟨Mono.refl _, fun w iv hf => ⟨.int .i64 0, w, R, fun q => ?_, .int _ _, Step.refl iv _ _⟩⟩
    simp [builtin, Builtin.len_, ht, run_und hu, goInt]
  case map id l hR =>
    split at h
    · rename_i es clock hg
      simp only [forceN_eq] at h
      obtain ⟨rfl, rfl⟩ := ok_inj h
      refine ⟨Mono.refl _, fun w iv hf => ?_⟩
      obtain ⟨ces, hx, he⟩ := iv.map hg hR
      have hgo : (getObj l.b).run P w = .ok (.map ces clock) w := run_getObj' hx (by intros; simp)
      refine ⟨.int .i64 ces.size, w, R, fun q => ?_, ?_, Step.refl iv _ _⟩
      · simp [builtin, Builtin.len_, ht, run_und hu, goInt, hgo]
      · have := he.length
        rw [lenL_eq, this]
        exact .int _ _
    · cases h
theorem clear_slice_ok {t e : TypeId} (ht : argTypes[0]? = some t) (hu : P.underlying t = some (.slice e)) {z : AV} {n : Nat} (hz : zeroOf P e = some z) (hn : sizeOfT P e = some n) (hzl : z.cells.length = n) (vx : VR ρ R X cx) (h : evClear z.cells X st = .ok (v, st')) : BiOK P ρ R .clear argTypes ty #[cx] st st' v := by
  obtain ⟨i, zv, hi, hzv, hcv⟩ := zeroOf_some hz
  have vz : VRs ρ R z.cells zv.cells.toList := (cVal_ok 4 hcv).cells
  have hz0 : ∀ w, (zeroValue e).run P w = .ok zv w := fun w => by simp [zeroValue, run_info hi, hzv]
  cases vx <;> (try simp only [evClear] at h) <;> try (cases h; done)
  case nilmap =>
    obtain ⟨rfl, rfl⟩ := ok_inj h
    refine ⟨Mono.refl _, fun w iv hf => ⟨.tuple #[], w, R, fun q => ?_, .tuple _ _ .nil, Step.refl iv _ _⟩⟩
    simp [builtin, Builtin.clear_, ht, run_und hu]
  case nilslice =>
    obtain ⟨rfl, rfl⟩ := ok_inj h
    refine ⟨Mono.refl _, fun w iv hf => ⟨.tuple #[], w, R, fun q => ?_, .tuple _ _ .nil, Step.refl iv _ _⟩⟩
    simp [builtin, Builtin.clear_, ht, run_und hu]
  case map id l hR =>
    split at h
    · rename_i es clock hg
      simp only [St.putK_eq] at h
      obtain ⟨rfl, rfl⟩ := ok_inj h
      refine ⟨Mono.put _ _ _, fun w iv hf => ?_⟩
      obtain ⟨ces, hx, he⟩ := iv.map hg hR
      have hgo : (getObj l.b).run P w = .ok (.map ces clock) w := run_getObj' hx (by intros; simp)
      refine ⟨.tuple #[], { w with heap := w.heap.setIfInBounds l.b (.map #[] clock) }, R, fun q => ?_, .tuple _ _ .nil, Step.write iv hg hR (.map _ _ _ _ .nil) (lowered_le _ _).2⟩
      simp [builtin, Builtin.clear_, ht, run_und hu, hgo, run_setObj hx]
    · cases h
  case slice id off m cap ex esz l x C hR ha hl hc hx hr =>
    cases m with
    | zero =>
      obtain ⟨rfl, rfl⟩ := ok_inj h
      refine ⟨Mono.refl _, fun w iv hf => ⟨.tuple #[], w, R, fun q => ?_, .tuple _ _ .nil, Step.refl iv _ _⟩⟩
      simp [builtin, Builtin.clear_, ht, run_und hu]
    | succ m =>
      simp only at h
      split at h
      · rename_i q1 q2 el cs fz hb hco
        split at h
        · rename_i q3 q4 cs' hfz hsf
          have hfz := ble_true hfz
          simp only [St.putK_eq] at h
          obtain ⟨rfl, rfl⟩ := ok_inj h
          have had := ha.resolve_left (by omega)
          subst had
          refine ⟨Mono.put _ _ _, fun w iv hf => ?_⟩
          have hrep := repL_ok vz (m + 1)
          obtain ⟨w', hrun, hstep⟩ := store_row (P := P) iv (cellsOf_get hco) hR hfz hsf hrep (low := (st.put id (.cells el cs' fz)).low) (n := st.next) (lowered_le _ _).2
          refine ⟨.tuple #[], w', R, fun q => ?_, .tuple _ _ .nil, hstep⟩
          have : (storeCells ⟨l.b, l.base + off, none⟩ (Builtin.zeroCells zv.cells (m + 1)).toList).run P w = .ok () w' := hrun
          simp [builtin, Builtin.clear_, ht, run_und hu, hz0, this]
        · cases h
      · cases h
theorem copy_ok {t e : TypeId} (ht : argTypes[0]? = some t) (hu : P.underlying t = some (.slice e)) {n : Nat} (hn : sizeOfT P e = some n) (vx : VR ρ R X cx) (vy : VR ρ R Y cy) (h : evCopy n X Y st = .ok (v, st')) : BiOK P ρ R .copy argTypes ty #[cx, cy] st st' v := by
  cases vx <;> (try simp only [evCopy] at h) <;> try (cases h; done)
  case nilslice =>
    cases vy <;> (try simp only at h) <;> try (cases h; done)
    case nilslice =>
      obtain ⟨rfl, rfl⟩ := ok_inj h
      refine ⟨Mono.refl _, fun w iv hf => ⟨.int .i64 0, w, R, fun q => ?_, .int _ _, Step.refl iv _ _⟩⟩
      simp [builtin, Builtin.copy_, ht, run_und hu, Builtin.lenOf, run_size hn, Builtin.firstCells, goInt]
    case slice id off m cap ex esz l x C hR ha hl hc hx hr =>
      obtain ⟨rfl, rfl⟩ := ok_inj h
      refine ⟨Mono.refl _, fun w iv hf => ⟨.int .i64 0, w, R, fun q => ?_, .int _ _, Step.refl iv _ _⟩⟩
      simp [builtin, Builtin.copy_, ht, run_und hu, Builtin.lenOf, run_size hn, Builtin.firstCells, goInt, loadCells, loadCellsFrom]
  case slice id off m cap ex esz l x C hR ha hl hc hx hr =>
    cases vy <;> (try simp only at h) <;> try (cases h; done)
    case nilslice =>
      obtain ⟨rfl, rfl⟩ := ok_inj h
      refine ⟨Mono.refl _, fun w iv hf => ⟨.int .i64 0, w, R, fun q => ?_, .int _ _, Step.refl iv _ _⟩⟩
      simp [builtin, Builtin.copy_, ht, run_und hu, Builtin.lenOf, run_size hn, Builtin.firstCells, goInt, storeCells]
    case slice id2 off2 m2 cap2 ex2 esz2 l2 x2 C2 hR2 ha2 hl2 hc2 hx2 hr2 =>
      split at h
      · rename_i hb
        simp only [forceN_eq] at h
        unfold copyTo at h
        split at h
        · rename_i el cs fz el2 cs2 fz2 hco hco2
          split at h
          · rename_i vs hlf
            split at h
            · rename_i hfz
              have hfz := ble_true hfz
              split at h
              · rename_i cs' hsf
                simp only [St.putK_eq] at h
                obtain ⟨rfl, rfl⟩ := ok_inj h
                refine ⟨Mono.put _ _ _, fun w iv hf => ?_⟩
                obtain ⟨c2, e2, fr2, hx2', r2⟩ := iv.cells (cellsOf_get hco2) hR2
                obtain ⟨mm, hm, hv⟩ := loadCells_ok (P := P) hx2' r2 hlf
                obtain ⟨w', hrun, hstep⟩ := store_row (P := P) iv (cellsOf_get hco) hR hfz hsf hv (low := (st.put id (.cells el cs' fz)).low) (n := st.next) (lowered_le _ _).2
                refine ⟨.int .i64 (Nat.min m2 m), w', R, fun q => ?_, .int _ _, hstep⟩
                have g1 : (loadCells x2 (Nat.min m2 m * n)).run P w = .ok mm w := by
                  by_cases h0 : Nat.min m2 m = 0
                  · rw [h0, Nat.zero_mul] at hm ⊢; exact hm
                  · have h3 : Nat.min m2 m ≤ m2 := Nat.min_le_left _ _
                    have := ha2.resolve_left (by omega)
                    subst this; exact hm
                have g2 : (storeCells x mm.toList).run P w = .ok () w' := by
                  by_cases h0 : Nat.min m2 m = 0
                  · have h1 := hv.length
                    rw [h0, Nat.zero_mul] at hlf
                    simp only [loadFrom, Option.some.injEq] at hlf
                    subst hlf
                    have : mm.toList = [] := List.eq_nil_of_length_eq_zero h1.symm
                    rw [this] at hrun ⊢; exact hrun
                  · have h3 : Nat.min m2 m ≤ m := Nat.min_le_right _ _
                    have := ha.resolve_left (by omega)
                    subst this; exact hrun
                simp [builtin, Builtin.copy_, ht, run_und hu, Builtin.lenOf, run_size hn, Builtin.firstCells, goInt, g1, g2]
              · cases h
            · cases h
          · cases h
        · cases h
      · cases h
theorem loadFrom_get : ∀ {n off : Nat} {cs : T AV} {vs : List AV}, loadFrom cs off n = some vs → ∀ i x, vs[i]? = some x → cs.get (off + i) = some x := by
  intro n
  induction n with
  | zero => intro off cs vs h i x hi; simp only [loadFrom, Option.some.injEq] at h; subst h; simp at hi
  | succ n ih =>
    intro off cs vs h i x hi
    simp only [loadFrom] at h
    cases hc : cs.get off with
    | none => rw [hc] at h; cases h
    | some y =>
      rw [hc] at h; simp only at h
      cases hl' : loadFrom cs (Nat.succ off) n with
      | none => rw [hl'] at h; cases h
      | some l' =>
        rw [hl'] at h; simp only [Option.some.injEq] at h; subst h
        cases i with
        | zero => simp only [List.getElem?_cons_zero, Option.some.injEq] at hi; subst hi; exact hc
        | succ i =>
          simp only [List.getElem?_cons_succ] at hi
          have := ih hl' i x hi
          rw [show off + (i + 1) = Nat.succ off + i by omega]; exact this
theorem liesAt_at (P : Program) {e : TypeId} (hc : P.cellsOf e = 1) (count off n : Nat) (hn : off + n ≤ count) : liesAt P P.depth e count off e n = true := by
  obtain ⟨d, hd⟩ : ∃ d, P.depth = d + 1 := ⟨2 * (P.types.size + Made.depth) + 1, rfl⟩
  have hs : sameLayout P P.depth e e = true := by rw [hd]; simp [sameLayout]
  rw [hd]
  have : off % 1 = 0 := Nat.mod_one off
  simp [liesAt, rowAt, hd, hc, hn, hd ▸ hs, this]
theorem run_freeze_row {b off n : Nat} {c : Array Value} {el : TypeId} {fr : Nat × Nat} (hx : w.heap[b]? = some (.cells c el fr)) (hn : n ≠ 0) :
    w.freeze ⟨b, off, none⟩ n = { w with heap := w.heap.setIfInBounds b (.cells c el (if fr.1 == fr.2 then (off, off + n) else (min fr.1 off, max fr.2 (off + n)))) } := by
  have hb := (Array.getElem?_eq_some_iff.1 hx).1
  simp only [World.freeze, if_neg hn, World.mk.injEq, and_self, and_true]
  apply Array.ext_getElem?
  intro i
  rw [Array.getElem?_modify]
  by_cases e : i = b
  · subst e; rw [Array.getElem?_setIfInBounds_self_of_lt hb, hx]; simp
  · rw [Array.getElem?_setIfInBounds_ne (fun c => e c.symm), if_neg (fun c => e c.symm)]
theorem unsafeString_none (k : IntKind) (n : Int) : Builtin.unsafeString_ argTypes ty #[.pointer none, .int k n] =
    (do
      let n ← asInt (.int k n)
      let some _ := argTypes[0]? | stuck "unsafe.String: no argument types"
      if n < 0 then runtimePanic (.error "unsafe.String: len out of range")
      if n > IntKind.i64.max then unsupported (.unsafePointer "String: a length above the largest int")
      if n = 0 then pure (.string .empty)
      else runtimePanic (.error "unsafe.String: ptr is nil and len is not zero")) := rfl
theorem unsafeString_some (x : Addr) (k : IntKind) (n : Int) : Builtin.unsafeString_ argTypes ty #[.pointer (some x), .int k n] =
    (do
      let n ← asInt (.int k n)
      let some pt := argTypes[0]? | stuck "unsafe.String: no argument types"
      if n < 0 then runtimePanic (.error "unsafe.String: len out of range")
      if n > IntKind.i64.max then unsupported (.unsafePointer "String: a length above the largest int")
      if n = 0 then pure (.string .empty)
      else if ← variablesAt x (← elemOf pt) n.toNat then do
        let s ← loadBytes x .empty n.toNat
        freeze x n.toNat
        pure (.string s)
      else unsupported (.unsafePointer "String: not so many bytes at ptr")) := rfl
theorem unsafeStr_ok {t u e : TypeId} (ht : argTypes[0]? = some t) (hu : P.underlying t = some (.pointer e)) (hn : sizeOfT P e = some 1) (vx : VR ρ R X cx) (vy : VR ρ R Y cy) (h : evUnsafeStr e X Y st = .ok (v, st')) : BiOK P ρ R .unsafeString argTypes ty #[cx, cy] st st' v := by
  have hmax : IntKind.i64.max = 9223372036854775807 := rfl
  cases vy <;> (try simp only [evUnsafeStr] at h) <;> try (cases h; done)
  case int k n =>
  cases n with
  | negSucc n => simp only at h; cases h
  | ofNat n =>
  cases n with
  | zero =>
    simp only at h
    cases vx <;> (try simp only at h) <;> try (cases h; done)
    case nilptr =>
      obtain ⟨rfl, rfl⟩ := ok_inj h
      refine ⟨Mono.refl _, fun w iv hf => ⟨.string .empty, w, R, fun q => ?_, .str 0 0 _ rfl (by decide), Step.refl iv _ _⟩⟩
      simp [builtin, unsafeString_none, asInt, asIntOf, hmax, ht]
    case ptr id off l hR =>
      obtain ⟨rfl, rfl⟩ := ok_inj h
      refine ⟨Mono.refl _, fun w iv hf => ⟨.string .empty, w, R, fun q => ?_, .str 0 0 _ rfl (by decide), Step.refl iv _ _⟩⟩
      simp [builtin, unsafeString_some, asInt, asIntOf, hmax, ht]
  | succ n =>
    simp only at h
    cases vx <;> (try simp only at h) <;> try (cases h; done)
    case ptr id off l hR =>
    split at h
    · rename_i e' cs fz hco
      split at h
      · rename_i q1 q2 b hb hp
        simp only [Bool.and_eq_true] at hb
        have h1 := beq_true hb.1
        have h2 := ble_true hb.2
        subst h1
        simp only [forceN_eq, St.putK_eq] at h
        obtain ⟨rfl, rfl⟩ := ok_inj h
        refine ⟨Mono.put _ _ _, fun w iv hf => ?_⟩
        obtain ⟨bs, hbl, hbf, eb⟩ := packFrom_spec _ _ _ _ _ _ hp
        obtain ⟨c, el, fr, hx, r⟩ := iv.cells (cellsOf_get hco) hR
        obtain ⟨rfl, hb0, hfr⟩ := r.elem _ rfl
        obtain ⟨m, hm, hv⟩ := loadCells_ok (P := P) hx r hbf
        have hbytes := hv.bytes
        have hmsz : m.size = n + 1 := by
          have := congrArg List.length hbytes
          simpa [hbl] using this
        have hcell : ∀ j x, bs[j]? = some x → w.cell? ((⟨l.b, l.base + off, none⟩ : Addr).add j) = some (.int .u8 x.toNat) := by
          intro j x hj
          have hj' : j < n + 1 := by rw [← hbl]; exact (List.getElem?_eq_some_iff.1 hj).1
          have hr := r.rel (off + j) (byteV x) ((loadFrom_get hbf) j _ (by simp [hj]))
          obtain ⟨cv, e1, e2⟩ := hr
          rw [addr_add, cell_of hx, Nat.add_assoc, e1]
          cases e2; rfl
        have hlb := Go.Lib.run_loadBytes (P := P) w bs ⟨l.b, l.base + off, none⟩ .empty hcell
        rw [hbl] at hlb
        have hsz : l.base + off + (n + 1) ≤ c.size := by
          obtain ⟨x, hx'⟩ : ∃ x, bs[n]? = some x := ⟨_, List.getElem?_eq_getElem (by omega)⟩
          have hr := r.rel (off + n) (byteV x) ((loadFrom_get hbf) n _ (by simp [hx']))
          obtain ⟨cv, e1, _⟩ := hr
          have := (Array.getElem?_eq_some_iff.1 e1).1
          omega
        have hlies := liesAt_at P (cellsOf_size hn) (c.size / P.cellsOf el) (l.base + off) (n + 1) (by rw [cellsOf_size hn, Nat.div_one]; exact hsz)
        have hsh := shape_of hx
        have hn0 : n + 1 ≠ 0 := Nat.succ_ne_zero n
        refine ⟨.string ⟨bs.toArray⟩, w.freeze ⟨l.b, l.base + off, none⟩ (n + 1), R, fun q => ?_, ?_, ?_⟩
        · have i1 : ¬ ((n : Int) + 1 < 0) := by omega
          have i2 : ¬ ((9223372036854775807 : Int) < (n : Int) + 1) := by omega
          have i3 : ¬ ((n : Int) + 1 = 0) := by omega
          have i4 : ((n : Int) + 1).toNat = n + 1 := by omega
          simp [builtin, unsafeString_some, asInt, asIntOf, hmax, ht, i1, i2, i3, i4, elemOf, run_und hu, variablesAt, hsh, hlies, hlb]
        · have := VR.ofBytes (ρ := ρ) (R := R) (s := ⟨bs.toArray⟩) (l := bs) rfl
          rw [hbl] at this
          simpa [eb] using this
        · rw [run_freeze_row hx hn0]
          refine Step.write iv (cellsOf_get hco) hR (.cells _ _ _ _ _ _ _ ?_) (lowered_le _ _).2
          have m1 : fz ≤ Nat.max fz (off + (n + 1)) := Nat.le_max_left _ _
          have m2 : off + (n + 1) ≤ Nat.max fz (off + (n + 1)) := Nat.le_max_right _ _
          have key : (if fr.1 == fr.2 then (l.base + off, l.base + off + (n + 1)) else (min fr.1 (l.base + off), max fr.2 (l.base + off + (n + 1)))).2 ≤ Nat.max fz (Nat.add off (n + 1)) := by
            show _ ≤ Nat.max fz (off + (n + 1))
            by_cases e : fr.1 = fr.2
            · simp [e]; omega
            · have := hfr.resolve_left e
              simp [e]; omega
          exact ⟨fun e' he => ⟨by injection he, hb0, .inr key⟩, r.size, r.rel, fun i hi1 hi2 hi3 => by
            have : i < Nat.max fz (Nat.add off (n + 1)) := Nat.lt_of_lt_of_le hi3.2 key
            omega⟩
      · cases h
    · cases h
end
end Go.Ab

namespace Go.Ab
section
variable {P : Program} {ρ : Nat → Int} {R : Inj} {E : T Unit} {σ : Sub} {N : Nat} {tm : T AV} {a : Act} {st st' : St} {v : AV} {call : CallV} {h : T AObj} {w : World}
variable {e : TypeId} {i : TypeInfo} {z : Value} {ty : TypeId} {argTypes : Array TypeId} {X Y : AV} {cx cy : Value}
structure AppT (P : Program) (argTypes : Array TypeId) (e : TypeId) (i : TypeInfo) (z : Value) : Prop where
  s : ∃ t, argTypes[0]? = some t ∧ P.underlying t = some (.slice e)
  x : ∃ t u, argTypes[1]? = some t ∧ P.underlying t = some u ∧ ∀ k, u ≠ .int k
  fi : P.info? e = some i
  fz : i.zero = some z
  fb : i.bytes ≠ 0
theorem run_append_room (A : AppT P argTypes e i z) {b : Option Addr} {n C m : Nat} {new : Array Value} {x : Value} {w' : World} (hl : (Builtin.lenOf x).run P w = .ok m w) (hf : (Builtin.firstCells i.size m x).run P w = .ok new w) (hn : n + m ≤ C)
    (hs : match b with | some a => (storeCells (a.add (n * i.size)) new.toList).run P w = .ok () w' | none => w' = w) :
    (Builtin.append_ argTypes ty #[.slice b n C, x]).run P w = .ok (.slice b (n + m) C) w' := by
  obtain ⟨t, ht, hu⟩ := A.s
  obtain ⟨t', u, ht', hu', hk⟩ := A.x
  have hz : (match u with | .int _ => true | _ => false) = false := by cases u <;> first | rfl | exact absurd rfl (hk _)
  cases b with
  | none =>
    simp only at hs; subst hs
    simp [Builtin.append_, ht, ht', run_und hu, run_und hu', sizeOf, run_info A.fi, hl, hn, hf]
  | some b =>
    simp only at hs
    simp [Builtin.append_, ht, ht', run_und hu, run_und hu', sizeOf, run_info A.fi, hl, hn, hf, hs]
theorem run_append_grown (A : AppT P argTypes e i z) {b : Option Addr} {n C m : Nat} {old new : Array Value} {x : Value} (hl : ∀ w, (Builtin.lenOf x).run P w = .ok m w) (hf : (Builtin.firstCells i.size m x).run P w.drew = .ok new w.drew) (ho : (Builtin.firstCells i.size n (.slice b n C)).run P w.drew = .ok old w.drew)
    (hn : C < n + m) (hfit : (n + m) * i.bytes ≤ 140737488355328) :
    (Builtin.append_ argTypes ty #[.slice b n C, x]).run P w =
      .ok (.slice (some ⟨w.heap.size, 0, none⟩) (n + m) (grownCap w (n + m) C e)) (w.drew.alloc (.cells (old ++ (new ++ Builtin.zeroCells z.cells (grownCap w (n + m) C e - (n + m)))) e)) := by
  obtain ⟨t, ht, hu⟩ := A.s
  obtain ⟨t', u, ht', hu', hk⟩ := A.x
  have hz : (match u with | .int _ => true | _ => false) = false := by cases u <;> first | rfl | exact absurd rfl (hk _)
  have hn' : ¬ (n + m ≤ C) := by omega
  have hfit' := growslice_fits hn hfit
  have h48' : ¬ (281474976710656 < Builtin.nextslicecap (n + m) C * i.bytes) := by omega
  have hzr : ∀ w, (zeroValue e).run P w = .ok z w := fun w => by simp [zeroValue, run_info A.fi, A.fz]
  simp [Builtin.append_, ht, ht', run_und hu, run_und hu', sizeOf, run_info A.fi, hl, hn', hf, ho, hz, A.fb, h48', Question.forced, hzr, newRow, grownCap]
theorem loadFrom_length : ∀ {n off : Nat} {cs : T AV} {vs : List AV}, loadFrom cs off n = some vs → vs.length = n := by
  intro n
  induction n with
  | zero => intro off cs vs h; simp only [loadFrom, Option.some.injEq] at h; subst h; rfl
  | succ n ih =>
    intro off cs vs h
    simp only [loadFrom] at h
    cases hc : cs.get off with
    | none => rw [hc] at h; cases h
    | some y =>
      rw [hc] at h; simp only at h
      cases hl' : loadFrom cs (Nat.succ off) n with
      | none => rw [hl'] at h; cases h
      | some l' =>
        rw [hl'] at h; simp only [Option.some.injEq] at h; subst h
        simp [ih hl']
theorem src_ok {esz m : Nat} {vs : List AV} (vy : VR ρ R Y cy) (h : srcCells st.heap esz Y = some (m, vs)) :
    (∀ w, (Builtin.lenOf cy).run P w = .ok m w) ∧ vs.length = m * esz ∧ ∀ w, Inv P ρ R st.heap w → ∃ new, (Builtin.firstCells esz m cy).run P w = .ok new w ∧ VRs ρ R vs new.toList := by
  cases vy <;> (try simp only [srcCells] at h) <;> try (cases h; done)
  case nilslice =>
    simp only [Option.some.injEq, Prod.mk.injEq] at h
    obtain ⟨rfl, rfl⟩ := h
    exact ⟨fun w => rfl, by simp, fun w _ => ⟨#[], rfl, .nil⟩⟩
  case str n b s hs hb =>
    split at h
    · rename_i he
      have he := beq_true he
      subst he
      simp only [Option.some.injEq, Prod.mk.injEq] at h
      obtain ⟨rfl, rfl⟩ := h
      have hsz := size_of hs
      refine ⟨fun w => by simp [Builtin.lenOf, hsz], by rw [bytesL_spec]; simp [unpack_length], fun w _ => ?_⟩
      have hr := Lib.run_firstCells_string (P := P) (w := w) 1 s
      rw [hsz] at hr
      refine ⟨_, hr, ?_⟩
      rw [bytesL_spec, ← hs]
      have := VRs.ofBytes (ρ := ρ) (R := R) s.data.toList
      have e : (Lib.strCells s) = s.data.toList.map byteC := by simp [Lib.strCells, byteC]
      simpa [e] using this
    · cases h
  case slice id off n cap ex es l x C hR ha hl hc hx hr =>
    cases n with
    | zero =>
      simp only [Option.some.injEq, Prod.mk.injEq] at h
      obtain ⟨rfl, rfl⟩ := h
      exact ⟨fun w => rfl, by simp, fun w _ => ⟨#[], by simp [Builtin.firstCells, loadCells, loadCellsFrom], .nil⟩⟩
    | succ n =>
      simp only at h
      split at h
      · rename_i he
        have he := beq_true he
        subst he
        split at h
        · rename_i oe cs fz hco
          split at h
          · rename_i l' hlf
            simp only [Option.some.injEq, Prod.mk.injEq] at h
            obtain ⟨rfl, rfl⟩ := h
            have had := ha.resolve_left (by omega)
            subst had
            refine ⟨fun w => rfl, loadFrom_length hlf, fun w iv => ?_⟩
            obtain ⟨c, el, fr, hx', r⟩ := iv.cells (cellsOf_get hco) hR
            obtain ⟨mm, hm, hv⟩ := loadCells_ok (P := P) hx' r hlf
            exact ⟨mm, hm, hv⟩
          · cases h
        · cases h
      · cases h
theorem allOne_true {vs : List AV} (h : allOne vs = true) : ∀ v ∈ vs, v.one = true := by
  induction vs with
  | nil => intro v hv; cases hv
  | cons x l ih =>
    simp only [allOne] at h
    split at h
    · rename_i hx
      intro v hv
      cases hv with
      | head => exact hx
      | tail _ hv => exact ih h v hv
    · cases h
theorem append_new' {h0 : T AObj} {nx : Nat} {esz m : Nat} {old vs : List AV} {co cn : Array Value} (vo : VRs ρ R old co.toList) (vn : VRs ρ R vs cn.toList) (zr : Array Value) (el : TypeId) (oe : Option Nat) (hoe : oe = none ∨ oe = some el) (fz : Nat) (iv : Inv P ρ R h0 w) (hn : R nx = none) (low : Nat) {C : Nat} (hC : C * esz ≤ (co ++ (cn ++ zr)).size) (hm : m ≤ C) :
    VR ρ (R.upd nx ⟨w.heap.size, 0, (co ++ (cn ++ zr)).size⟩) (.slice nx 0 m m false esz) (.slice (some ⟨w.heap.size, 0, none⟩) m C) ∧
    Step P ρ R h0 w (R.upd nx ⟨w.heap.size, 0, (co ++ (cn ++ zr)).size⟩) (h0.set nx (.cells oe (T.leaf.ofList 0 (old ++ vs)) fz)) (w.drew.alloc (.cells (co ++ (cn ++ zr)) el)) low nx (nx + 1) := by
  have iv1 : Inv P ρ R h0 w.drew := iv.congr rfl
  refine ⟨.slice _ 0 m m false esz ⟨w.heap.size, 0, _⟩ _ C (Inj.upd_eq _ _ _) (.inr rfl) (Nat.le_refl _) hm (fun h => by cases h) (by simpa using hC), ?_⟩
  have s0 : Step P ρ R h0 w R h0 w.drew low nx nx := Step.drew iv low nx (w.drawn + 1)
  refine s0.trans (Step.alloc (P := P) iv1 hn (l := ⟨w.heap.size, 0, (co ++ (cn ++ zr)).size⟩) rfl (.cells _ _ _ _ _ _ _ ?_) low) (Nat.le_refl _) (Nat.le_refl _) (Nat.le_succ _)
  have r : CellsR ρ (R.upd nx ⟨w.heap.size, 0, (co ++ (cn ++ zr)).size⟩) (some el) (T.leaf.ofList 0 (old ++ vs)) 0 ⟨w.heap.size, 0, (co ++ (cn ++ zr)).size⟩ (co ++ (cn ++ zr)) el (0, 0) := by
    refine cellsR_new (fun i v hi => ?_) el _
    have vv := (VRs.append vo vn).mono (Inj.upd_ext hn ⟨w.heap.size, 0, (co ++ (cn ++ zr)).size⟩)
    obtain ⟨cv, e1, e2⟩ := vv.get hi
    refine ⟨cv, ?_, e2⟩
    have hlt := (List.getElem?_eq_some_iff.1 e1).1
    rw [← Array.append_assoc, Array.getElem?_append_left (by simpa using hlt), ← e1, ← Array.toList_append, Array.getElem?_toList]
  refine ⟨fun e' he => ⟨?_, rfl, .inl rfl⟩, r.size, r.rel, fun _ _ _ hc => by simp at hc⟩
  rcases hoe with rfl | rfl
  · cases he
  · injection he
theorem append_new {esz m : Nat} {old vs : List AV} {co cn : Array Value} (vo : VRs ρ R old co.toList) (vn : VRs ρ R vs cn.toList) (zr : Array Value) (el : TypeId) (iv : Inv P ρ R st.heap w) (hn : R st.next = none) (low : Nat) {C : Nat} (hC : C * esz ≤ (co ++ (cn ++ zr)).size) (hm : m ≤ C) :
    VR ρ (R.upd st.next ⟨w.heap.size, 0, (co ++ (cn ++ zr)).size⟩) (.slice st.next 0 m m false esz) (.slice (some ⟨w.heap.size, 0, none⟩) m C) ∧
    Step P ρ R st.heap w (R.upd st.next ⟨w.heap.size, 0, (co ++ (cn ++ zr)).size⟩) (st.heap.set st.next (.cells (some el) (T.leaf.ofList 0 (old ++ vs)) 0)) (w.drew.alloc (.cells (co ++ (cn ++ zr)) el)) low st.next (st.next + 1) :=
  append_new' vo vn zr el (some el) (.inr rfl) 0 iv hn low hC hm
theorem elemJoin_or (oe : Option Nat) (e off : Nat) : elemJoin oe e off = none ∨ elemJoin oe e off = some e := by
  unfold elemJoin
  split
  · split
    · exact .inr rfl
    · exact .inl rfl
  · exact .inl rfl
theorem elemJoin_some {oe : Option Nat} {e off e' : Nat} (h : elemJoin oe e off = some e') : oe = some e' ∧ off = 0 := by
  unfold elemJoin at h
  split at h
  · rename_i x
    split at h
    · rename_i hb
      simp only [Bool.and_eq_true] at hb
      have h1 := beq_true hb.1
      have h2 := beq_true hb.2
      injection h with h
      exact ⟨by rw [h1, h], h2⟩
    · cases h
  · cases h
theorem append_ok {esz bytes : Nat} (A : AppT P argTypes e i z) (hs : i.size = esz) (hb : i.bytes = bytes) (hzs : z.cells.size = esz) (vx : VR ρ R X cx) (vy : VR ρ R Y cy) (h : evAppend e esz bytes X Y st = .ok (v, st')) : BiOK P ρ R .append argTypes ty #[cx, cy] st st' v := by
  subst hs; subst hb
  have zsize : ∀ k, (Builtin.zeroCells z.cells k).size = k * i.size := fun k => by simp [Builtin.zeroCells, hzs]
  unfold evAppend at h
  split at h
  · cases h
  · rename_i m vs hsrc
    obtain ⟨hl, hlen, hfc⟩ := src_ok (P := P) vy hsrc
    cases vx <;> (try simp only at h) <;> try (cases h; done)
    case nilslice =>
      cases m with
      | zero =>
        simp only at h
        obtain ⟨rfl, rfl⟩ := ok_inj h
        refine ⟨Mono.refl _, fun w iv hf => ?_⟩
        obtain ⟨new, hnew, _⟩ := hfc w iv
        refine ⟨.slice none 0 0, w, R, fun q => ?_, .nilslice, Step.refl iv _ _⟩
        have := run_append_room (ty := ty) (b := none) (n := 0) (C := 0) (w' := w) A (hl w) hnew (Nat.le_refl _) rfl
        simp [builtin, this]
      | succ m =>
        simp only at h
        split at h
        · rename_i hb
          simp only [Bool.and_eq_true] at hb
          have h1 := ble_true hb.1
          have h1 : (m + 1) * i.bytes ≤ 70368744177664 := h1
          simp only [appendNew, T.ofListK_eq, St.newK_eq, List.nil_append] at h
          obtain ⟨rfl, rfl⟩ := ok_inj h
          refine ⟨Mono.new _ _, fun w iv hf => ?_⟩
          have iv1 : Inv P ρ R st.heap w.drew := iv.congr rfl
          obtain ⟨new, hnew, hv⟩ := hfc w.drew iv1
          have hr := run_append_grown (ty := ty) (b := none) (n := 0) (C := 0) (old := #[]) A hl hnew rfl (by omega) (by rw [Nat.zero_add]; omega)
          have hg : m + 1 ≤ grownCap w (0 + (m + 1)) 0 e := by simp only [grownCap, Question.cut]; omega
          have hsz : new.size = (m + 1) * i.size := by
            have := hv.length; simp only [Array.length_toList] at this; omega
          obtain ⟨r1, r2⟩ := append_new (esz := i.size) (m := m + 1) (C := grownCap w (0 + (m + 1)) 0 e) (VRs.nil (ρ := ρ) (R := R)) (co := #[]) hv (Builtin.zeroCells z.cells (grownCap w (0 + (m + 1)) 0 e - (0 + (m + 1)))) e iv (hf _ (Nat.le_refl _) (Nat.lt_succ_self _)) st.low (by
            simp only [Array.size_append, zsize, hsz, Nat.zero_add]
            obtain ⟨d, hd⟩ : ∃ d, grownCap w (m + 1) 0 e = m + 1 + d := ⟨grownCap w (m + 1) 0 e - (m + 1), by rw [Nat.zero_add] at hg; omega⟩
            rw [hd, Nat.add_mul, show m + 1 + d - (m + 1) = d by omega]
            simp) hg
          simp only [Nat.zero_add] at hr r1 r2
          exact ⟨_, _, _, fun q => by simp only [builtin, Sem.run_bind, hr, Result.andThen_ok, Sem.run_pure], r1, r2⟩
        · cases h
    case slice id off n cap ex es l x C hR ha hln hc hx hr =>
      split at h
      · cases h
      · rename_i hb
        simp only [Bool.and_eq_true] at hb
        have he := beq_true hb.1
        have h1s := ble_true hb.2
        subst he
        cases m with
        | zero =>
          simp only at h
          obtain ⟨rfl, rfl⟩ := ok_inj h
          refine ⟨Mono.refl _, fun w iv hf => ?_⟩
          obtain ⟨new, hnew, hv⟩ := hfc w iv
          have hnl : new.toList = [] := by
            have := hv.length
            exact List.eq_nil_of_length_eq_zero (by omega)
          have := run_append_room (ty := ty) (b := some x) (n := n) (C := C) (w' := w) A (hl w) hnew (by omega) (by rw [hnl]; rfl)
          exact ⟨.slice (some x) n C, w, R, fun q => by simp only [builtin, Sem.run_bind, this, Result.andThen_ok, Sem.run_pure, Nat.add_zero], .slice id off n cap ex _ l x C hR ha hln hc hx hr, Step.refl iv _ _⟩
        | succ m =>
          simp only at h
          unfold appendTo at h
          split at h
          · cases h
          · rename_i hsz
            simp only [Bool.and_eq_true] at hsz
            have hbytes : (n + (m + 1)) * i.bytes ≤ 70368744177664 := ble_true hsz.1
            have hone := allOne_true hsz.2
            split at h
            · cases h
            · rename_i oe cs fz hco
              have hg := cellsOf_get hco
              have inplace : ∀ w, Inv P ρ R st.heap w → n + (m + 1) ≤ C → fz ≤ off + n * i.size → ∃ c el fr new, w.heap[l.b]? = some (.cells c el fr) ∧ CellsR ρ R oe cs fz l c el fr ∧ VRs ρ R vs new ∧ l.base + (off + n * i.size) + new.length ≤ c.size ∧ off ≤ l.room ∧ x = ⟨l.b, l.base + off, none⟩ ∧
                  (Builtin.append_ argTypes ty #[.slice (some x) n C, cy]).run P w = .ok (.slice (some x) (n + (m + 1)) C) { w with heap := w.heap.setIfInBounds l.b (.cells (setRange c (l.base + (off + n * i.size)) new) el fr) } := by
                intro w iv hC hfz
                obtain ⟨new, hnew, hv⟩ := hfc w iv
                obtain ⟨c, el, fr, hx', r⟩ := iv.cells hg hR
                have had := ha.resolve_left (by omega)
                have hnl : new.toList.length = (m + 1) * i.size := by rw [← hv.length]; exact hlen
                have hroom : n * i.size + (m + 1) * i.size ≤ C * i.size := by rw [← Nat.add_mul]; exact Nat.mul_le_mul_right _ hC
                have hcs := r.size
                have hsize : l.base + (off + n * i.size) + new.toList.length ≤ c.size := by omega
                have hst := run_storeCells (P := P) l.b (l.base + (off + n * i.size)) el fr new.toList 0 c w hx' (by omega) (fun j h1 h2 => r.free j (by omega) (by omega)) (hv.one hone)
                refine ⟨c, el, fr, new.toList, hx', r, hv, hsize, by omega, had, ?_⟩
                refine run_append_room (ty := ty) (b := some x) A (hl w) hnew hC ?_
                subst had
                simp only [addr_add, Nat.add_assoc] at hst ⊢
                exact hst
              split at h
              · rename_i hcap
                have hcap : n + (m + 1) ≤ cap := ble_true hcap
                split at h
                · rename_i hfz
                  have hfz : fz ≤ off + n * i.size := ble_true hfz
                  simp only [T.ofListK_eq, St.putK_eq, forceN_eq] at h
                  obtain ⟨rfl, rfl⟩ := ok_inj h
                  refine ⟨Mono.put _ _ _, fun w iv hf => ?_⟩
                  obtain ⟨c, el, fr, new, hx', r, hv, hsize, _, had, hrun⟩ := inplace w iv (by omega) hfz
                  refine ⟨.slice (some x) (n + (m + 1)) C, _, R, fun q => by simp only [builtin, Sem.run_bind, hrun, Result.andThen_ok, Sem.run_pure], .slice id off (n + (m + 1)) cap ex _ l x C hR ha hcap hc hx hr, Step.write iv hg hR (.cells _ _ _ _ _ _ _ (r.write hv hsize fun j => ?_)) (lowered_le _ _).2⟩
                  rw [T.get_ofList]
                  show (if h : off + n * i.size ≤ j ∧ j < off + n * i.size + vs.length then _ else _) = _
                  by_cases hj : off + n * i.size ≤ j ∧ j < off + n * i.size + vs.length
                  · rw [dif_pos hj, if_pos hj, List.getElem?_eq_getElem (by omega)]; rfl
                  · rw [dif_neg hj, if_neg hj]
                · cases h
              · rename_i hcap
                split at h
                · cases h
                · rename_i old hold
                  have hol : old.length = n * i.size := loadFrom_length hold
                  have grown : ∀ w, Inv P ρ R st.heap w → C < n + (m + 1) → ∃ co cn, VRs ρ R old co.toList ∧ VRs ρ R vs cn.toList ∧ n + (m + 1) ≤ grownCap w (n + (m + 1)) C e ∧
                      grownCap w (n + (m + 1)) C e * i.size ≤ (co ++ (cn ++ Builtin.zeroCells z.cells (grownCap w (n + (m + 1)) C e - (n + (m + 1))))).size ∧
                      (Builtin.append_ argTypes ty #[.slice (some x) n C, cy]).run P w = .ok (.slice (some ⟨w.heap.size, 0, none⟩) (n + (m + 1)) (grownCap w (n + (m + 1)) C e)) (w.drew.alloc (.cells (co ++ (cn ++ Builtin.zeroCells z.cells (grownCap w (n + (m + 1)) C e - (n + (m + 1))))) e)) := by
                    intro w iv hC
                    have iv1 : Inv P ρ R st.heap w.drew := iv.congr rfl
                    obtain ⟨new, hnew, hv⟩ := hfc w.drew iv1
                    obtain ⟨c, el, fr, hx', r⟩ := iv1.cells hg hR
                    obtain ⟨mm, hm, hvo⟩ := loadCells_ok (P := P) hx' r hold
                    have ho : (Builtin.firstCells i.size n (.slice (some x) n C)).run P w.drew = .ok mm w.drew := by
                      by_cases h0 : n = 0
                      · subst h0
                        have : mm = #[] := by
                          have := hvo.length
                          simp only [Array.length_toList] at this
                          exact Array.eq_empty_of_size_eq_zero (by omega)
                        subst this
                        simp [Builtin.firstCells, loadCells, loadCellsFrom]
                      · have had := ha.resolve_left (by omega)
                        subst had; exact hm
                    have hgc : n + (m + 1) ≤ grownCap w (n + (m + 1)) C e := by simp only [grownCap, Question.cut]; omega
                    refine ⟨mm, new, hvo, hv, hgc, ?_, run_append_grown (ty := ty) A hl hnew ho hC (by omega)⟩
                    have h1 : mm.size = n * i.size := by have := hvo.length; simp only [Array.length_toList] at this; omega
                    have h2 : new.size = (m + 1) * i.size := by have := hv.length; simp only [Array.length_toList] at this; omega
                    obtain ⟨d, hd⟩ : ∃ d, grownCap w (n + (m + 1)) C e = n + (m + 1) + d := ⟨grownCap w (n + (m + 1)) C e - (n + (m + 1)), by omega⟩
                    simp only [Array.size_append, zsize, h1, h2, hd, show n + (m + 1) + d - (n + (m + 1)) = d by omega, Nat.add_mul]
                    omega
                  split at h
                  · simp only [forceN_eq, appendNew, T.ofListK_eq, St.newK_eq] at h
                    obtain ⟨rfl, rfl⟩ := ok_inj h
                    refine ⟨Mono.new _ _, fun w iv hf => ?_⟩
                    have hCc : C = cap := hx rfl
                    have hcap' : ¬ n + (m + 1) ≤ cap := fun c => by rw [show Nat.ble (Nat.add n (m + 1)) cap = true from Nat.ble_eq_true_of_le c] at hcap; cases hcap
                    obtain ⟨co, cn, vo, vn, hgc, hsz', hrun⟩ := grown w iv (by omega)
                    obtain ⟨r1, r2⟩ := append_new vo vn _ e iv (hf _ (Nat.le_refl _) (Nat.lt_succ_self _)) st.low hsz' hgc
                    exact ⟨_, _, _, fun q => by simp only [builtin, Sem.run_bind, hrun, Result.andThen_ok, Sem.run_pure], r1, r2⟩
                  · split at h
                    · cases h
                    · rename_i hfz
                      have hfz : fz ≤ off + n * i.size := ble_true hfz
                      simp only [forceN_eq, T.ofListK_eq, St.newK_eq] at h
                      obtain ⟨rfl, rfl⟩ := ok_inj h
                      refine ⟨(Mono.kill st id).trans (Mono.new _ _), fun w iv hf => ?_⟩
                      have hnone : R st.next = none := hf _ (Nat.le_refl _) (Nat.lt_succ_self _)
                      by_cases hC : n + (m + 1) ≤ C
                      · obtain ⟨c, el, fr, new, hx', r, hv, hsize, hoff, had, hrun⟩ := inplace w iv hC hfz
                        have had' := had
                        have rr : CellsR ρ R (elemJoin oe e off) (T.leaf.ofList 0 (old ++ vs)) (Nat.sub fz off) ⟨l.b, l.base + off, l.room - off⟩ (setRange c (l.base + (off + n * i.size)) new) el fr := by
                          have hcs := r.size
                          refine ⟨fun e' he => ?_, ?_, fun j v hj => ?_, fun j h1 h2 => ?_⟩
                          · obtain ⟨h1, h2⟩ := elemJoin_some he
                            obtain ⟨q1, q2, q3⟩ := r.elem _ h1
                            refine ⟨q1, by show l.base + off = 0; omega, ?_⟩
                            rcases q3 with q3 | q3
                            · exact .inl q3
                            · exact .inr (by show fr.2 ≤ fz - off; omega)
                          · rw [setRange_size]; show c.size = l.base + off + (l.room - off); omega
                          · rw [T.get_ofList] at hj
                            split at hj
                            · rename_i hjr
                              simp only [Option.some.injEq] at hj
                              have hj' : (old ++ vs)[j]? = some v := by rw [← hj]; simp
                              rw [setRange_get _ _ _ _ hsize]
                              show ∃ cv, (if _ ≤ l.base + off + j ∧ l.base + off + j < _ then _ else _) = _ ∧ _
                              by_cases hlo : j < n * i.size
                              · rw [if_neg (by omega)]
                                rw [List.getElem?_append_left (by omega)] at hj'
                                have := loadFrom_get hold j v hj'
                                obtain ⟨cv, e1, e2⟩ := r.rel _ _ this
                                exact ⟨cv, by rw [Nat.add_assoc]; exact e1, e2⟩
                              · rw [List.getElem?_append_right (by omega), hol] at hj'
                                obtain ⟨cv, e1, e2⟩ := hv.get hj'
                                have := (List.getElem?_eq_some_iff.1 e1).1
                                rw [if_pos (by omega)]
                                exact ⟨cv, by rw [show l.base + off + j - (l.base + (off + n * i.size)) = j - n * i.size by omega]; exact e1, e2⟩
                            · rw [T.get_leaf] at hj; cases hj
                          · rw [setRange_size] at h2
                            have h1 : l.base + off + (fz - off) ≤ j := h1
                            exact r.free j (by omega) h2
                        have rr' := rr.mono (Inj.upd_ext hnone ⟨l.b, l.base + off, l.room - off⟩)
                        refine ⟨.slice (some x) (n + (m + 1)) C, _, R.upd st.next ⟨l.b, l.base + off, l.room - off⟩, fun q => by simp only [builtin, Sem.run_bind, hrun, Result.andThen_ok, Sem.run_pure], ?_, Step.rename (l' := ⟨l.b, l.base + off, l.room - off⟩) iv hg hR hnone rfl (.cells _ _ _ _ _ _ _ rr') (lowered_le _ _).2⟩
                        refine .slice _ 0 _ _ false _ ⟨l.b, l.base + off, l.room - off⟩ _ C (Inj.upd_eq _ _ _) (.inr had') (Nat.le_refl _) hC (fun h => by cases h) ?_
                        show 0 + C * i.size ≤ l.room - off
                        omega
                      · obtain ⟨co, cn, vo, vn, hgc, hsz', hrun⟩ := grown w iv (by omega)
                        have hk := Step.kill (P := P) iv id (st.kill id).low st.next
                        obtain ⟨r1, r2⟩ := append_new' (h0 := st.heap.del id) (nx := st.next) vo vn _ e (elemJoin oe e off) (elemJoin_or _ _ _) (Nat.sub fz off) hk.inv hnone (st.kill id).low hsz' hgc
                        exact ⟨_, _, _, fun q => by simp only [builtin, Sem.run_bind, hrun, Result.andThen_ok, Sem.run_pure], r1, hk.trans r2 (Nat.le_refl _) (Nat.le_refl _) (Nat.le_succ _)⟩
end
end Go.Ab

namespace Go.Ab
section
variable {P : Program} {ρ : Nat → Int} {R : Inj} {E : T Unit} {σ : Sub} {N : Nat} {tm : T AV} {a : Act} {st st' : St} {v : AV} {call : CallV} {h : T AObj} {w : World}
variable {dst : Option Tmp} {ty : TypeId} {pos : String} {af : Array Edge} {g : Option (Nat × Bool)}
theorem sliceOf_st {id off len cap : Nat} {ex : Bool} {esz : Nat} {cl ch : Option CA} (h : sliceOf id off len cap ex esz tm cl ch st = .ok (v, st')) : st' = st := by
  unfold sliceOf at h
  repeat' split at h
  all_goals first
    | (simp only [forceN_eq] at h; exact (ok_inj h).2.symm)
    | cases h
theorem sliceArr_run (C : Ctx ρ R E σ N tm a) {x : Operand} {cx : CA} (hx : cOpnd E σ x = some cx) {lo hi : Option Operand} {cl ch : Option CA} (hl : cOptOpnd E σ lo = some cl) (hh : cOptOpnd E σ hi = some ch) {e : TypeId} {n esz : Nat} (hes : sizeOfT P e = some esz)
    (h : opSliceArr n esz cx cl ch none tm st call = .ok (v, st')) :
    st' = st ∧ ∀ w, Inv P ρ R st.heap w → ∃ ad low high, a.eval x = .pointer (some ad) ∧ (∀ w, (Instr.sliceBounds false n n (lo.map a.eval) (hi.map a.eval) none).run P w = .ok (low, high, n) w) ∧
      VR ρ R v (.slice (some (if n = low then ad else ad.add (low * esz))) (high - low) (n - low)) := by
  simp only [opSliceArr, evAK_eq] at h
  have vx := C.opnd hx
  generalize evA tm cx = X at vx h
  generalize hqx : a.eval x = cvx at vx
  cases vx <;> (try simp only at h) <;> try (cases h; done)
  case ptr id off l hR =>
  split at h
  · cases h
  · rename_i m hm
    split at h
    · rename_i q hload
      refine ⟨sliceOf_st h, fun w iv => ?_⟩
      have hroom : off + n * esz ≤ l.room := by
        unfold load1At at hload
        split at hload
        · rename_i e' cs fz hg
          obtain ⟨c, el, fr, hx', r⟩ := iv.cells hg hR
          obtain ⟨cv, hcv, _⟩ := r.rel _ _ hload
          have h1 := (Array.getElem?_eq_some_iff.1 hcv).1
          have h2 := r.size
          have h3 : n * esz = m + 1 := hm
          have h4 : l.base + (off + m) < c.size := h1
          omega
        · cases hload
      obtain ⟨_, low, high, hrun, hv⟩ := sliceOf_ok (P := P) C hR hl hh h (ad := ⟨l.b, l.base + off, none⟩) (K := n) (.inr rfl) (Nat.le_refl _) (Nat.le_refl _) (fun _ => rfl) hroom false
      refine ⟨_, low, high, rfl, hrun, ?_⟩
      have e : (if n = low then some (⟨l.b, l.base + off, none⟩ : Addr) else (some ⟨l.b, l.base + off, none⟩ : Option Addr).map (·.add (low * esz))) = some (if n = low then ⟨l.b, l.base + off, none⟩ else (⟨l.b, l.base + off, none⟩ : Addr).add (low * esz)) := by
        split <;> rfl
      rw [← e]; exact hv
    · cases h
theorem sliceArr_ok (C : Ctx ρ R E σ N tm a) {t : TypeId} {x : Operand} {lo hi mx : Option Operand} {co : CO} (hc : cOp P E σ ⟨dst, .slice t x lo hi mx, ty, pos, af, g⟩ = some co) (hcl : opClass co = 3) (h : evOp co tm st call = .ok (v, st')) :
    MemOK P ρ R a ⟨dst, .slice t x lo hi mx, ty, pos, af, g⟩ st st' v := by
  simp only [cOp] at hc
  obtain ⟨cx, hx, hc⟩ := bind_some hc
  obtain ⟨cl, hl, hc⟩ := bind_some hc
  obtain ⟨ch, hh, hc⟩ := bind_some hc
  obtain ⟨cm, hm, hc⟩ := bind_some hc
  obtain ⟨u, hu, hc⟩ := bind_some hc
  cases u <;> simp only at hc <;> try (cases hc; done)
  case string =>
    split at hc
    · cases hc
    · simp only [Option.some.injEq] at hc; subst hc; simp [opClass] at hcl
  case slice e =>
    obtain ⟨esz, hes, hc⟩ := bind_some hc
    simp only [Option.some.injEq] at hc; subst hc; simp [opClass] at hcl
  case array n e =>
    obtain ⟨esz, hes, hc⟩ := bind_some hc
    simp only [Option.some.injEq] at hc; subst hc
    have hcm : cm = none := by
      simp only [evOp, opSliceArr, evAK_eq] at h
      split at h
      · split at h
        · rfl
        · cases h
      · cases h
    subst hcm
    have hmx : mx = none := by
      rcases cOptOpnd_some hm with ⟨rfl, _⟩ | ⟨y, d, _, h2, _⟩
      · rfl
      · cases h2
    subst hmx
    obtain ⟨rfl, hrun⟩ := sliceArr_run (P := P) (call := call) C hx hl hh hes h
    refine ⟨Mono.refl _, fun w iv hf => ?_⟩
    obtain ⟨ad, low, high, hq, hb, hv⟩ := hrun w iv
    refine ⟨_, w, R, .inl ?_, hv, Step.refl iv _ _⟩
    simp only [execOp, hq, Instr.sliceAt, Sem.run_bind, run_und hu, Result.andThen_ok, Instr.sureAddr, Sem.run_pure, Option.map_none, hb, run_size hes]
  case pointer arr =>
    obtain ⟨u', hu', hc⟩ := bind_some hc
    cases u' <;> simp only at hc <;> try (cases hc; done)
    case array n e =>
    split at hc
    · cases hc
    · rename_i hmx
      obtain ⟨esz, hes, hc⟩ := bind_some hc
      simp only [Option.some.injEq] at hc; subst hc
      have hmx : mx = none := by cases mx <;> simp_all
      subst hmx
      have hcm : cm = none := by
        rcases cOptOpnd_some hm with ⟨_, rfl⟩ | ⟨y, d, h1, _, _⟩
        · rfl
        · cases h1
      subst hcm
      obtain ⟨rfl, hrun⟩ := sliceArr_run (P := P) (call := call) C hx hl hh hes h
      refine ⟨Mono.refl _, fun w iv hf => ?_⟩
      obtain ⟨ad, low, high, hq, hb, hv⟩ := hrun w iv
      refine ⟨_, w, R, .inl ?_, hv, Step.refl iv _ _⟩
      simp only [execOp, hq, Instr.sliceAt, Sem.run_bind, run_und hu, run_und hu', Result.andThen_ok, Instr.slice, asAddr, Sem.run_pure, Option.map_none, hb, run_size hes]
end
end Go.Ab

namespace Go.Ab
structure OpOK (P : Program) (ρ : Nat → Int) (R : Inj) (a : Act) (o : Oper) (st st' : St) (v : AV) : Prop where
  mono : Mono st st'
  run : ∀ w, Inv P ρ R st.heap w → Fresh R st.next st'.next → Conds ρ st'.tr → ∃ cv w' R', Runs P a o w cv w' ∧ VR ρ R' v cv ∧ Step P ρ R st.heap w R' st'.heap w' st'.low st.next st'.next
section
variable {P : Program} {ρ : Nat → Int} {R : Inj} {E : T Unit} {σ : Sub} {N : Nat} {tm : T AV} {a : Act} {st st' : St} {v : AV} {call : CallV} {h : T AObj} {w : World}
variable {dst : Option Tmp} {ty : TypeId} {pos : String} {af : Array Edge} {g : Option (Nat × Bool)}
theorem MemOK.op {o : Oper} (m : MemOK P ρ R a o st st' v) : OpOK P ρ R a o st st' v := ⟨m.mono, fun w iv hf _ => m.run w iv hf⟩
theorem PureOK.op {o : Oper} (m : PureOK P ρ R a o st st' v) : OpOK P ρ R a o st st' v := by
  obtain ⟨rfl, cv, hr, hv⟩ := m
  exact ⟨Mono.refl _, fun w iv _ _ => ⟨cv, w, R, .inl (hr w), hv, Step.refl iv _ _⟩⟩
theorem BiOK.op {b : Builtin} {argTypes : Array TypeId} {args : Array Operand} (m : BiOK P ρ R b argTypes ty (args.map a.eval) st st' v) : OpOK P ρ R a ⟨dst, .call { callee := .builtin b, args := args, argTypes := argTypes }, ty, pos, af, g⟩ st st' v :=
  ⟨m.mono, fun w iv hf _ => by
    obtain ⟨cv, w', R', hr, hv, hs⟩ := m.run w iv hf
    exact ⟨cv, w', R', .inl (by rw [run_builtin]; exact hr _), hv, hs⟩⟩
theorem pick_ok (C : Ctx ρ R E σ N tm a) {c x y : Operand} {co : CO} (hc : cOp P E σ ⟨dst, .pick c x y, ty, pos, af, g⟩ = some co) (h : evOp co tm st call = .ok (v, st')) : OpOK P ρ R a ⟨dst, .pick c x y, ty, pos, af, g⟩ st st' v := by
  simp only [cOp] at hc
  obtain ⟨cc, hcc, hc⟩ := bind_some hc
  obtain ⟨cx, hx, hc⟩ := bind_some hc
  obtain ⟨cy, hy, hc⟩ := bind_some hc
  simp only [Option.some.injEq] at hc; subst hc
  simp only [evOp, opPick, evAK_eq] at h
  have vc := C.opnd hcc
  have vx := C.opnd hx
  have vy := C.opnd hy
  generalize evA tm cc = X at vc h
  generalize hq : a.eval c = cvc at vc
  unfold decK at h
  cases vc <;> (try simp only at h) <;> try (cases h; done)
  case bool b =>
    cases b with
    | true =>
      obtain ⟨rfl, rfl⟩ := ok_inj h
      exact ⟨Mono.refl _, fun w iv _ _ => ⟨a.eval x, w, R, .inl (by simp [execOp, hq, asBool]), vx, Step.refl iv _ _⟩⟩
    | false =>
      obtain ⟨rfl, rfl⟩ := ok_inj h
      exact ⟨Mono.refl _, fun w iv _ _ => ⟨a.eval y, w, R, .inl (by simp [execOp, hq, asBool]), vy, Step.refl iv _ _⟩⟩
  case sbool s b hb =>
    obtain ⟨hp, nx, lo, sc, tr⟩ := st
    cases sc with
    | nil => simp only at h; cases h
    | cons d sc =>
      simp only at h
      cases d with
      | true =>
        obtain ⟨rfl, rfl⟩ := ok_inj h
        refine ⟨⟨Nat.le_refl _, Nat.le_refl _, [_], rfl⟩, fun w iv _ hcd => ?_⟩
        have := hcd (s, true) (by simp)
        simp only [hb] at this
        subst this
        exact ⟨a.eval x, w, R, .inl (by simp [execOp, hq, asBool]), vx, Step.refl iv _ _⟩
      | false =>
        obtain ⟨rfl, rfl⟩ := ok_inj h
        refine ⟨⟨Nat.le_refl _, Nat.le_refl _, [_], rfl⟩, fun w iv _ hcd => ?_⟩
        have := hcd (s, false) (by simp)
        simp only [hb] at this
        subst this
        exact ⟨a.eval y, w, R, .inl (by simp [execOp, hq, asBool]), vy, Step.refl iv _ _⟩
theorem map_one {α β : Type} (f : α → β) (x : α) : #[x].map f = #[f x] := by simp
theorem map_two {α β : Type} (f : α → β) (x y : α) : #[x, y].map f = #[f x, f y] := by simp
theorem builtin_ok (C : Ctx ρ R E σ N tm a) {b : Builtin} {argTypes : Array TypeId} {args : Array Operand} {ca : List CA} (ha : cOpnds E σ args = some ca) {co : CO} (hc : cBuiltin P b argTypes ca = some co) (hcl : opClass co ≠ 0) (h : evOp co tm st call = .ok (v, st')) :
    BiOK P ρ R b argTypes ty (args.map a.eval) st st' v := by
  unfold cBuiltin at hc
  split at hc
  ·
    obtain ⟨x, y, rfl, hx, hy⟩ := args2 ha
    rw [map_two]
    obtain ⟨t, ht, hc⟩ := bind_some hc
    obtain ⟨u, hu, hc⟩ := bind_some hc
    obtain ⟨ut, hut, hc⟩ := bind_some hc
    obtain ⟨uu, huu, hc⟩ := bind_some hc
    split at hc <;> try (cases hc; done)
    rename_i e _ hne
    obtain ⟨z, hz, hc⟩ := bind_some hc
    obtain ⟨n, hn, hc⟩ := bind_some hc
    obtain ⟨bw, hbw, hc⟩ := bind_some hc
    split at hc
    · rename_i hcond
      simp only [Option.some.injEq] at hc; subst hc
      simp only [Bool.and_eq_true, decide_eq_true_eq, beq_iff_eq] at hcond
      obtain ⟨i, zv, hi, hzv, hcv⟩ := zeroOf_some hz
      obtain ⟨i', hi', hin⟩ := sizeOfT_some hn
      obtain ⟨i'', hi'', hib⟩ := bytesOfT_some hbw
      have e1 : i' = i := by rw [hi] at hi'; injection hi' with e; exact e.symm
      have e2 : i'' = i := by rw [hi] at hi''; injection hi'' with e; exact e.symm
      subst e1; subst e2
      have vz : VRs ρ R z.cells zv.cells.toList := (cVal_ok 4 hcv).cells
      have hzl := vz.length
      simp only [Array.length_toList] at hzl
      simp only [evOp, opAppend, evAK_eq] at h
      have A : AppT P argTypes e i'' zv := ⟨⟨t, ht, hut⟩, ⟨u, uu, hu, huu, fun k hk => hne k hk⟩, hi, hzv, by omega⟩
      exact append_ok A hin hib (by omega) (C.opnd hx) (C.opnd hy) h
    · cases hc
  ·
    obtain ⟨y, rfl, hy⟩ := args1 ha
    rw [map_one]
    obtain ⟨t, ht, hc⟩ := bind_some hc
    obtain ⟨u, hu, hc⟩ := bind_some hc
    split at hc <;> (try (cases hc; done)) <;> try (simp only [Option.some.injEq] at hc; subst hc; exact absurd rfl hcl)
    · simp only [Option.some.injEq] at hc; subst hc
      simp only [evOp, opLenMap, evAK_eq] at h
      exact lenMap_ok ht hu (C.opnd hy) h
    · obtain ⟨u', hu', hc⟩ := bind_some hc
      split at hc <;> try (cases hc; done)
      simp only [Option.some.injEq] at hc; subst hc; exact absurd rfl hcl
  ·
    obtain ⟨t, ht, hc⟩ := bind_some hc
    obtain ⟨u, hu, hc⟩ := bind_some hc
    split at hc <;> try (cases hc; done)
    simp only [Option.some.injEq] at hc; subst hc; exact absurd rfl hcl
  ·
    obtain ⟨x, y, rfl, hx, hy⟩ := args2 ha
    rw [map_two]
    obtain ⟨t, ht, hc⟩ := bind_some hc
    obtain ⟨u, hu, hc⟩ := bind_some hc
    split at hc <;> try (cases hc; done)
    obtain ⟨n, hn, hc⟩ := bind_some hc
    simp only [Option.some.injEq] at hc; subst hc
    simp only [evOp, opCopy, evAK_eq] at h
    exact copy_ok ht hu hn (C.opnd hx) (C.opnd hy) h
  ·
    obtain ⟨x, y, rfl, hx, hy⟩ := args2 ha
    rw [map_two]
    obtain ⟨t, ht, hc⟩ := bind_some hc
    obtain ⟨u, hu, hc⟩ := bind_some hc
    split at hc <;> try (cases hc; done)
    obtain ⟨s, hs, hc⟩ := bind_some hc
    simp only [Option.some.injEq] at hc; subst hc
    simp only [evOp, opDelete, evAK_eq] at h
    split at h
    · rename_i hks
      exact delete_ok ht hu hs (C.opnd hx) (C.opnd hy) hks h
    · cases h
  ·
    obtain ⟨x, rfl, hx⟩ := args1 ha
    rw [map_one]
    obtain ⟨t, ht, hc⟩ := bind_some hc
    obtain ⟨u, hu, hc⟩ := bind_some hc
    split at hc <;> try (cases hc; done)
    · simp only [Option.some.injEq] at hc; subst hc
      simp only [evOp, opClear, evAK_eq] at h
      exact clear_map_ok ht hu (C.opnd hx) h
    · obtain ⟨z, hz, hc⟩ := bind_some hc
      obtain ⟨n, hn, hc⟩ := bind_some hc
      split at hc
      · rename_i hzl
        simp only [Option.some.injEq] at hc; subst hc
        simp only [evOp, opClear, evAK_eq] at h
        exact clear_slice_ok ht hu hz hn (by simpa using hzl) (C.opnd hx) h
      · cases hc
  · simp only [Option.some.injEq] at hc; subst hc; exact absurd rfl hcl
  · simp only [Option.some.injEq] at hc; subst hc; exact absurd rfl hcl
  · simp only [Option.some.injEq] at hc; subst hc; exact absurd rfl hcl
  ·
    obtain ⟨x, y, rfl, hx, hy⟩ := args2 ha
    rw [map_two]
    obtain ⟨t, ht, hc⟩ := bind_some hc
    obtain ⟨u, hu, hc⟩ := bind_some hc
    split at hc <;> try (cases hc; done)
    obtain ⟨u', hu', hc⟩ := bind_some hc
    split at hc <;> try (cases hc; done)
    obtain ⟨n, hn, hc⟩ := bind_some hc
    split at hc <;> try (cases hc; done)
    rename_i h1
    simp only [Option.some.injEq] at hc; subst hc
    simp only [evOp, opUnsafeStr, evAK_eq] at h
    have : n = 1 := by simpa using h1
    subst this
    exact unsafeStr_ok (u := t) ht hu hn (C.opnd hx) (C.opnd hy) h
  · cases hc
theorem op_ok (C : Ctx ρ R E σ N tm a) {o : Oper} {co : CO} (hc : cOp P E σ o = some co) (hnc : ∀ c, o.op = .call c → ∀ x, c.callee ≠ .value x) (h : evOp co tm st call = .ok (v, st')) : OpOK P ρ R a o st st' v := by
  obtain ⟨dst, op, ty, pos, af, g⟩ := o
  cases op
  case move x =>
    simp only [cOp] at hc
    obtain ⟨cx, hx, hc⟩ := bind_some hc
    simp only [Option.some.injEq] at hc; subst hc
    obtain ⟨e, hv⟩ := mv_ok C hx h
    exact PureOK.op ⟨e, _, fun w => rfl, hv⟩
  case assign x =>
    simp only [cOp] at hc
    obtain ⟨cx, hx, hc⟩ := bind_some hc
    simp only [Option.some.injEq] at hc; subst hc
    obtain ⟨e, hv⟩ := mv_ok C hx h
    exact PureOK.op ⟨e, _, fun w => rfl, hv⟩
  case pick c x y => exact pick_ok C hc h
  case alloc t => exact (newc_ok C hc h).op
  case box t x => exact (box_ok C hc h).op
  case build t ps => exact (build_ok C (by simpa only [cOp] using hc) h).op
  case buildSlice t n ps => exact (buildSlice_ok C hc h).op
  case insert t m k x => exact (insert_ok C hc h).op
  case load t x => exact (load_ok C hc h).op
  case store t x y => exact (store_ok C hc h).op
  case ready => simp [cOp] at hc
  case waits => simp [cOp] at hc
  case nilCheck x =>
    simp only [cOp] at hc
    obtain ⟨cx, hx, hc⟩ := bind_some hc
    simp only [Option.some.injEq] at hc; subst hc
    exact (nilCheck_ok C hx h).op
  case binOp op t x y yt => exact (cBin_ok C (by simpa only [cOp] using hc) h).op
  case unOp op t x =>
    simp only [cOp] at hc
    obtain ⟨cx, hx, hc⟩ := bind_some hc
    simp only [Option.some.injEq] at hc; subst hc
    exact (un_ok C hx h).op
  case convert s d x =>
    by_cases hcl : opClass co = 0
    · exact (convPure_ok C (by simpa only [cOp] using hc) hcl h).op
    · exact (conv_ok C (by simpa only [cOp] using hc) hcl h).op
  case sliceToArrayPointer => simp [cOp] at hc
  case makeInterface t x => exact (mkIface_ok C hc h).op
  case makeFunc fn x y =>
    cases fn <;> simp only [cOp] at hc <;> try (cases hc; done)
    obtain ⟨cx, hx, hc⟩ := bind_some hc
    obtain ⟨cy, hy, hc⟩ := bind_some hc
    simp only [Option.some.injEq] at hc; subst hc
    exact (mkFunc_ok C hx hy h).op
  case makeMap t r => exact (mkMap_ok hc h).op
  case makeChan => simp [cOp] at hc
  case makeSlice t l c => exact (mkSlice_ok C hc h).op
  case slice t x l h' m =>
    by_cases hcl : opClass co = 0
    · exact (slice_ok C hc hcl h).op
    · refine (sliceArr_ok C hc ?_ h).op
      simp only [cOp] at hc
      obtain ⟨_, _, hc⟩ := bind_some hc
      obtain ⟨_, _, hc⟩ := bind_some hc
      obtain ⟨_, _, hc⟩ := bind_some hc
      obtain ⟨_, _, hc⟩ := bind_some hc
      obtain ⟨u, _, hc⟩ := bind_some hc
      cases u <;> simp only at hc <;> try (cases hc; done)
      case string =>
        split at hc
        · cases hc
        · simp only [Option.some.injEq] at hc; subst hc; exact absurd rfl hcl
      case slice e =>
        obtain ⟨_, _, hc⟩ := bind_some hc
        simp only [Option.some.injEq] at hc; subst hc; exact absurd rfl hcl
      case array n e =>
        obtain ⟨_, _, hc⟩ := bind_some hc
        simp only [Option.some.injEq] at hc; subst hc; rfl
      case pointer arr =>
        obtain ⟨u', _, hc⟩ := bind_some hc
        cases u' <;> simp only at hc <;> try (cases hc; done)
        split at hc
        · cases hc
        · obtain ⟨_, _, hc⟩ := bind_some hc
          simp only [Option.some.injEq] at hc; subst hc; rfl
  case fieldAddr s x i => exact (fieldAddr_ok C hc h).op
  case field s x i => exact (field_ok C hc h).op
  case indexAddr t x i => exact (idxAddr_ok C hc h).op
  case index t x i => exact (idx_ok C hc h).op
  case lookup t m k ok => exact (cLookup_ok C hc h).op
  case mapUpdate t m k x => exact (mapUpd_ok C hc h).op
  case mapEntry => simp [cOp] at hc
  case entryStore => simp [cOp] at hc
  case range t x => exact (range_ok C hc h).op
  case next x s => exact (next_ok C hc h).op
  case entry x => exact (entry_ok C hc h).op
  case typeAssert x t t' ok => exact (tyAssert_ok C hc h).op
  case extract x i =>
    simp only [cOp] at hc
    obtain ⟨cx, hx, hc⟩ := bind_some hc
    simp only [Option.some.injEq] at hc; subst hc
    exact (extract_ok C hx h).op
  case call c =>
    obtain ⟨callee, args, argTypes⟩ := c
    simp only [cOp] at hc
    obtain ⟨ca, ha, hc⟩ := bind_some hc
    cases callee with
    | value f => exact absurd rfl (hnc _ rfl f)
    | invoke r m => simp only at hc; cases hc
    | builtin b =>
      simp only at hc
      by_cases hcl : opClass co = 0
      · obtain ⟨e, cv, h1, h2⟩ := cBuiltin_pure (ty := ty) C ha hc hcl h
        exact PureOK.op ⟨e, cv, fun w => by rw [run_builtin]; exact h1 w _, h2⟩
      · exact (builtin_ok C ha hc hcl h).op
  case go => simp [cOp] at hc
  case defer => simp [cOp] at hc
  case panic => simp [cOp] at hc
  case send => simp [cOp] at hc
  case recv => simp [cOp] at hc
  case select => simp [cOp] at hc
end
end Go.Ab

namespace Go.Ab
def Upon (P : Program) (K : Value → World → Prop) : Result Next → Prop
  | .ok (.value v) w => K v w
  | .ok (.enter f args) w => CallsIn Fence.wide 0 P f args w fun e w' => ∃ v, e = .returned v ∧ K v w'
  | .ok (.round l f tmps assign body) w => RoundIn Fence.wide 0 P l f tmps assign body w fun e w' => ∃ v, e = .returned v ∧ K v w'
  | _ => False
theorem Upon.mono {P : Program} {K K' : Value → World → Prop} (h : ∀ v w, K v w → K' v w) {r : Result Next} (u : Upon P K r) : Upon P K' r := by
  unfold Upon at *
  split at u
  · exact h _ _ u
  · exact u.mono fun e w' ⟨v, a, b⟩ => ⟨v, a, h _ _ b⟩
  · exact u.mono fun e w' ⟨v, a, b⟩ => ⟨v, a, h _ _ b⟩
  · exact u.elim
inductive FnR (R : Inj) : AFn → Fn → Prop
  | func (f : Nat) : FnR R (.func f) (.func f)
  | yield (id : Nat) (l : Loc) (h : R id = some l) : FnR R (.yield id) (.yield l.b)
def target : Fn → Array Value → Sem Next
  | .func f, args => callFunc f args
  | .yield l, args => Instr.yield l args
  | _, _ => stuck ""
def Glob (R : Inj) : Prop := ∀ g, g < 100 → ∃ room, R g = some ⟨g, 0, room⟩
theorem Glob.mono {R R' : Inj} (g : Glob R) (h : Ext R R') : Glob R' := fun i hi => let ⟨r, e⟩ := g i hi; ⟨r, h _ _ e⟩
structure InvW (P : Program) (ρ : Nat → Int) (R : Inj) (st : St) (w : World) : Prop where
  inv : Inv P ρ R st.heap w
  wf : ∀ id, st.next ≤ id → st.heap.get id = none
theorem Step.toW {P : Program} {ρ : Nat → Int} {R R' : Inj} {st st' : St} {w w' : World} {low : Nat} (s : Step P ρ R st.heap w R' st'.heap w' low st.next st'.next) (iv : InvW P ρ R st w) (hn : st.next ≤ st'.next) : InvW P ρ R' st' w' := ⟨s.inv, fun id hid => s.dom id (iv.wf id (Nat.le_trans hn hid)) fun c => Nat.lt_irrefl _ (Nat.lt_of_lt_of_le c.2 hid)⟩
structure CallSound (P : Program) (ρ : Nat → Int) (call : CallV) : Prop where
  mono : ∀ fn args st v st', call fn args st = .ok (v, st') → Mono st st'
  run : ∀ fn args st v st', call fn args st = .ok (v, st') → ∀ R w cfn cargs, FnR R fn cfn → VRs ρ R args cargs.toList → Glob R → InvW P ρ R st w → Fresh R st.next st'.next → Conds ρ st'.tr →
    Upon P (fun cv w' => ∃ R', VR ρ R' v cv ∧ Step P ρ R st.heap w R' st'.heap w' st'.low st.next st'.next) ((target cfn cargs).run P w)
def Wide (F : Fence) : Prop := F = Fence.wide ∨ ∃ l, F = Fence.wide.inRound l
section
variable {P : Program} {ρ : Nat → Int} {R : Inj} {E : T Unit} {σ : Sub} {N : Nat} {tm : T AV} {a : Act} {st st' : St} {v : AV} {call : CallV} {h : T AObj} {w : World}
theorem Wide.calls {F : Fence} (hF : Wide F) {n : Nat} {f : FuncId} {args : Array Value} {K K' : Ending → World → Prop} (h : CallsIn Fence.wide 0 P f args w K) (hk : ∀ e w, K e w → K' e w) : CallsIn F n P f args w K' := by
  have h1 : CallsIn Fence.wide n P f args w K' := (h.mono hk).more (Nat.zero_le _)
  rcases hF with rfl | ⟨l, rfl⟩
  · exact h1
  · exact h1
theorem Wide.round {F : Fence} (hF : Wide F) {n : Nat} {l : Nat} {f : FuncId} {tmps : Array Value} {x y : Code} {K K' : Ending → World → Prop} (h : RoundIn Fence.wide 0 P l f tmps x y w K) (hk : ∀ e w, K e w → K' e w) : RoundIn F n P l f tmps x y w K' := by
  have h1 : RoundIn Fence.wide n P l f tmps x y w K' := ⟨h.1, fun c cs _ => (h.mono hk).2 c cs (room_wide _)⟩
  rcases hF with rfl | ⟨l, rfl⟩
  · exact h1
  · exact h1
theorem Wide.fn {F : Fence} (hF : Wide F) (f : FuncId) : F.fn f := by
  rcases hF with rfl | ⟨l, rfl⟩ <;> trivial
theorem Wide.depth {F : Fence} (hF : Wide F) : F.depth = none := by
  rcases hF with rfl | ⟨l, rfl⟩ <;> rfl
theorem Upon.uponIn {F : Fence} (hF : Wide F) {n : Nat} {o : Oper} {next : Act → World → Prop} {Q : Exit → Act → World → Prop} {K : Value → World → Prop} (hK : ∀ v w, K v w → next (a.put o.dst v) w) {r : Result Next} (u : Upon P K r) : o.uponIn F n P a next Q r := by
  unfold Upon at u
  split at u
  · exact hK _ _ u
  · refine ⟨fun h => (by rw [hF.depth] at h; cases h), hF.calls u ?_⟩
    rintro e w' ⟨v, rfl, hk⟩
    exact hK _ _ hk
  · refine ⟨fun h => (by rw [hF.depth] at h; cases h), hF.round u ?_⟩
    rintro e w' ⟨v, rfl, hk⟩
    exact hK _ _ hk
  · exact u.elim
theorem cOp_no_defer {o : Oper} {co : CO} (hc : cOp P E σ o = some co) : ∀ c, o.op ≠ .defer c := by
  intro c e
  simp [cOp, e] at hc
theorem VRs.arr {l : List AV} {c : Array Value} {m : List Value} (h : VRs ρ R l m) (e : c.toList = m) : VRs ρ R l c.toList := by rw [e]; exact h
theorem call_run (CS : CallSound P ρ call) (C : Ctx ρ R E σ N tm a) {dst : Option Tmp} {ty : TypeId} {pos : String} {af : Array Edge} {g : Option (Nat × Bool)} {f : Operand} {args : Array Operand} {argTypes : Array TypeId} {co : CO}
    (hc : cOp P E σ ⟨dst, .call ⟨.value f, args, argTypes⟩, ty, pos, af, g⟩ = some co) (h : evOp co tm st call = .ok (v, st')) :
    Mono st st' ∧ ∀ w, InvW P ρ R st w → Fresh R st.next st'.next → Conds ρ st'.tr →
    Upon P (fun cv w' => ∃ R', VR ρ R' v cv ∧ Step P ρ R st.heap w R' st'.heap w' st'.low st.next st'.next) ((execOp a.eval ⟨dst, .call ⟨.value f, args, argTypes⟩, ty, pos, af, g⟩).run P w) := by
  simp only [cOp] at hc
  obtain ⟨ca, ha, hc⟩ := bind_some hc
  have va : VRs ρ R (evAs tm ca) (args.map a.eval).toList := by
    have := C.opnds ha
    simpa using this
  have gen : ∀ cf, cOpnd E σ f = some cf → evOp (.callV cf ca) tm st call = .ok (v, st') → Mono st st' ∧ ∀ w, InvW P ρ R st w → Fresh R st.next st'.next → Conds ρ st'.tr →
      Upon P (fun cv w' => ∃ R', VR ρ R' v cv ∧ Step P ρ R st.heap w R' st'.heap w' st'.low st.next st'.next) ((execOp a.eval ⟨dst, .call ⟨.value f, args, argTypes⟩, ty, pos, af, g⟩).run P w) := by
    intro cf hcf h
    simp only [evOp, opCallV, evAK_eq, evAsK_eq] at h
    have vf := C.opnd hcf
    generalize evA tm cf = X at vf h
    generalize hq : a.eval f = cvf at vf
    cases vf <;> (try simp only at h) <;> try (cases h; done)
    case func n first captured fs cs h1 h2 =>
      refine ⟨CS.mono _ _ _ _ _ h, fun w iv hf hcd => ?_⟩
      have := CS.run _ _ _ _ _ h R w (.func n) (fs ++ (args.map a.eval ++ cs)) (.func n) (by simpa using VRs.append h1 (VRs.append va h2)) C.glob iv hf hcd
      have e : (execOp a.eval ⟨dst, .call ⟨.value f, args, argTypes⟩, ty, pos, af, g⟩).run P w = (target (.func n) (fs ++ (args.map a.eval ++ cs))).run P w := by
        simp only [execOp, resolve, hq, Deferred.ofValue, Sem.run_bind, Sem.run_pure, Result.andThen_ok, invoke, target]
        simp [Array.append_assoc]
      rw [e]; exact this
    case yield id l hR =>
      refine ⟨CS.mono _ _ _ _ _ h, fun w iv hf hcd => ?_⟩
      have := CS.run _ _ _ _ _ h R w (.yield l.b) (args.map a.eval) (.yield id l hR) (by simpa using va) C.glob iv hf hcd
      have e : (execOp a.eval ⟨dst, .call ⟨.value f, args, argTypes⟩, ty, pos, af, g⟩).run P w = (target (.yield l.b) (args.map a.eval)).run P w := by
        simp only [execOp, resolve, hq, Deferred.ofValue, Sem.run_bind, Sem.run_pure, Result.andThen_ok, invoke, target]
        simp
      rw [e]; exact this
  cases f
  case func n _ =>
    simp only [Option.some.injEq] at hc; subst hc
    simp only [evOp, opCall, evAsK_eq] at h
    refine ⟨CS.mono _ _ _ _ _ h, fun w iv hf hcd => ?_⟩
    have := CS.run _ _ _ _ _ h R w (.func n) (args.map a.eval) (.func n) va C.glob iv hf hcd
    have e : (execOp a.eval ⟨dst, .call ⟨.value (.func n), args, argTypes⟩, ty, pos, af, g⟩).run P w = (target (.func n) (args.map a.eval)).run P w := by
      simp only [execOp, resolve, Act.eval, Deferred.ofValue, Sem.run_bind, Sem.run_pure, Result.andThen_ok, invoke, target]
      simp
    rw [e]; exact this
  all_goals
    simp only at hc
    obtain ⟨cf, hcf, hc⟩ := bind_some hc
    simp only [Option.some.injEq] at hc; subst hc
    exact gen cf hcf h
theorem op_run (CS : CallSound P ρ call) (C : Ctx ρ R E σ N tm a) {o : Oper} {co : CO} (hc : cOp P E σ o = some co) (h : evOp co tm st call = .ok (v, st')) :
    Mono st st' ∧ ∀ w, InvW P ρ R st w → Fresh R st.next st'.next → Conds ρ st'.tr → ∀ (K : Value → World → Prop),
      (∀ cv w' R', VR ρ R' v cv → Step P ρ R st.heap w R' st'.heap w' st'.low st.next st'.next → K cv w') →
      Upon P K ((execOp a.eval o).run P w) ∨ ((∃ w', (execOp a.eval o).run P w = .ok .skip w' ∧ K Go.undef w')) := by
  have main : (∀ c, o.op = .call c → ∀ x, c.callee ≠ .value x) → Mono st st' ∧ ∀ w, InvW P ρ R st w → Fresh R st.next st'.next → Conds ρ st'.tr → ∀ (K : Value → World → Prop),
      (∀ cv w' R', VR ρ R' v cv → Step P ρ R st.heap w R' st'.heap w' st'.low st.next st'.next → K cv w') →
      Upon P K ((execOp a.eval o).run P w) ∨ ((∃ w', (execOp a.eval o).run P w = .ok .skip w' ∧ K Go.undef w')) := by
    intro hnc
    have m := op_ok C hc hnc h
    refine ⟨m.mono, fun w iv hf hcd K hK => ?_⟩
    obtain ⟨cv, w', R', hr, hv, hs⟩ := m.run w iv.inv hf hcd
    rcases hr with hr | ⟨hr, rfl⟩
    · exact .inl (by rw [hr]; exact hK _ _ _ hv hs)
    · exact .inr ⟨w', hr, hK _ _ _ hv hs⟩
  obtain ⟨dst, op, ty, pos, af, g⟩ := o
  by_cases hcall : ∃ f args argTypes, op = .call ⟨.value f, args, argTypes⟩
  · obtain ⟨f, args, argTypes, rfl⟩ := hcall
    obtain ⟨h1, h2⟩ := call_run CS C hc h
    exact ⟨h1, fun w iv hf hcd K hK => .inl ((h2 w iv hf hcd).mono fun cv w' ⟨R', a, b⟩ => hK _ _ _ a b)⟩
  · refine main fun c hop x hx => hcall ?_
    obtain ⟨callee, args, argTypes⟩ := c
    simp only at hop hx
    exact ⟨x, args, argTypes, by rw [hop, hx]⟩
theorem op_wp {F : Fence} (hF : Wide F) {n : Nat} (CS : CallSound P ρ call) (C : Ctx ρ R E σ N tm a) {o : Oper} {co : CO} (hc : cOp P E σ o = some co) (h : evOp co tm st call = .ok (v, st')) (iv : InvW P ρ R st w) (hf : Fresh R st.next st'.next) (hcd : Conds ρ st'.tr)
    {next : Act → World → Prop} {Q : Exit → Act → World → Prop} (hK : ∀ cv w' R', VR ρ R' v cv → Step P ρ R st.heap w R' st'.heap w' st'.low st.next st'.next → next (a.put o.dst cv) w') : o.wpIn F n P a w next Q := by
  refine ⟨fun f _ => hF.fn f, ?_⟩
  rw [Oper.semAt_eq _ _ _ (cOp_no_defer hc)]
  rcases (op_run CS C hc h).2 w iv hf hcd (fun cv w' => next (a.put o.dst cv) w') hK with h | ⟨w', h, hk⟩
  · exact h.uponIn hF fun _ _ hk => hk
  · rw [h]; exact hk
end
end Go.Ab

namespace Go.Ab
section
variable {P : Program} {ρ : Nat → Int} {R : Inj} {E : T Unit} {σ : Sub} {N : Nat} {tm : T AV} {a : Act} {st st' : St} {v : AV} {call : CallV} {h : T AObj} {w : World}
def SubAll (ρ : Nat → Int) (R : Inj) (σ : Sub) (tm : T AV) (tmps : Array Value) : Prop := ∀ p ∈ σ, VR ρ R (evA tm p.2) (tmps.getD p.1 Go.undef)
theorem Sub.find_mem {σ : Sub} {t : Nat} {x : CA} (h : σ.find t = some x) : (t, x) ∈ σ := by
  induction σ with
  | nil => cases h
  | cons p l ih =>
    obtain ⟨u, y⟩ := p
    simp only [Sub.find] at h
    split at h
    · rename_i hb
      have := beq_true hb
      injection h with h
      subst this; subst h
      exact List.mem_cons_self
    · exact List.mem_cons_of_mem _ (ih h)
theorem SubAll.ok {tmps : Array Value} (s : SubAll ρ R σ tm tmps) : SubOK ρ R E σ tm tmps := fun t x _ hf => s (t, x) (Sub.find_mem hf)
theorem Sub.mem_drop {σ : Sub} {d : Nat} {p : Nat × CA} (h : p ∈ σ.drop d) : p ∈ σ ∧ p.1 ≠ d ∧ p.2 ≠ .t d := by
  induction σ with
  | nil => cases h
  | cons q l ih =>
    obtain ⟨u, x⟩ := q
    simp only [Sub.drop] at h
    split at h
    · obtain ⟨a, b⟩ := ih h; exact ⟨List.mem_cons_of_mem _ a, b⟩
    · rename_i hu
      have hu' : u ≠ d := fun c => by rw [c, show Nat.beq d d = true from Nat.beq_refl d] at hu; cases hu
      split at h
      · rename_i t
        split at h
        · obtain ⟨a, b⟩ := ih h; exact ⟨List.mem_cons_of_mem _ a, b⟩
        · rename_i ht
          have ht' : t ≠ d := fun c => by rw [c, show Nat.beq d d = true from Nat.beq_refl d] at ht; cases ht
          cases h with
          | head => exact ⟨List.mem_cons_self, hu', fun c => ht' (by injection c)⟩
          | tail _ h => obtain ⟨a, b⟩ := ih h; exact ⟨List.mem_cons_of_mem _ a, b⟩
      · cases h with
        | head => exact ⟨List.mem_cons_self, hu', fun c => by cases c⟩
        | tail _ h => obtain ⟨a, b⟩ := ih h; exact ⟨List.mem_cons_of_mem _ a, b⟩
theorem getD_set_ne (t : Array Value) {d i : Nat} (v : Value) (h : i ≠ d) : (t.setIfInBounds d v).getD i Go.undef = t.getD i Go.undef := by
  simp only [Array.getD_eq_getD_getElem?]
  rw [Array.getElem?_setIfInBounds_ne (fun c => h c.symm)]
theorem getD_set_eq (t : Array Value) {d : Nat} (v : Value) (h : d < t.size) : (t.setIfInBounds d v).getD d Go.undef = v := by
  simp only [Array.getD_eq_getD_getElem?]
  rw [Array.getElem?_setIfInBounds_self_of_lt h]; rfl
theorem evA_set_ne {d : Nat} {v : AV} {x : CA} (h : x ≠ .t d) : evA (tm.set d v) x = evA tm x := by
  cases x with
  | v y => rfl
  | t i =>
    have : i ≠ d := fun c => h (by rw [c])
    simp only [evA, T.get_set, if_neg this]
theorem evA_set_eq {d : Nat} {v : AV} : evA (tm.set d v) (.t d) = v := by
  simp [evA, T.get_set]
theorem TR.set (t : TR ρ R E N tm a.tmps) {d : Nat} (hd : d < N) {v : AV} {cv : Value} (hv : VR ρ R v cv) : TR ρ R E N (tm.set d v) (a.put (some d) cv).tmps := by
  refine ⟨by simp [Act.put, t.size], fun i hi => ?_⟩
  by_cases e : i = d
  · subst e
    rw [evA_set_eq]
    simp only [Act.put]
    rw [getD_set_eq _ _ (by rw [t.size]; exact hd)]; exact hv
  · rw [evA_set_ne (fun c => e (by injection c))]
    simp only [Act.put]
    rw [getD_set_ne _ _ e]
    exact t.rel i hi
theorem TR.skip (t : TR ρ R E N tm a.tmps) {d : Nat} (hd : E.get d ≠ none) (cv : Value) : TR ρ R E N tm (a.put (some d) cv).tmps := by
  refine ⟨by simp [Act.put, t.size], fun i hi => ?_⟩
  have e : i ≠ d := fun c => hd (c ▸ hi)
  simp only [Act.put]
  rw [getD_set_ne _ _ e]
  exact t.rel i hi
theorem SubAll.set {tmps : Array Value} (s : SubAll ρ R σ tm tmps) (d : Nat) (v : AV) (cv : Value) : SubAll ρ R (σ.drop d) (tm.set d v) (tmps.setIfInBounds d cv) := by
  intro p hp
  obtain ⟨h1, h2, h3⟩ := Sub.mem_drop hp
  rw [evA_set_ne h3, getD_set_ne _ _ h2]
  exact s p h1
theorem SubAll.move {tmps : Array Value} (s : SubAll ρ R σ tm tmps) {d : Nat} (hd : d < tmps.size) {x : CA} {cv : Value} (hx : VR ρ R (evA tm x) cv) : SubAll ρ R ((d, x) :: σ.drop d) tm (tmps.setIfInBounds d cv) := by
  intro p hp
  cases hp with
  | head => rw [getD_set_eq _ _ hd]; exact hx
  | tail _ hp =>
    obtain ⟨h1, h2, _⟩ := Sub.mem_drop hp
    rw [getD_set_ne _ _ h2]
    exact s p h1
theorem SubAll.mono {R' : Inj} (h : Ext R R') {tmps : Array Value} (s : SubAll ρ R σ tm tmps) : SubAll ρ R' σ tm tmps := fun p hp => (s p hp).mono h
end
end Go.Ab

namespace Go.Ab
section
variable {P : Program} {ρ : Nat → Int} {R : Inj} {E : T Unit} {σ : Sub} {N : Nat} {tm : T AV} {a : Act} {st st' : St} {v : AV} {call : CallV} {h : T AObj} {w : World}
def wantOf (want : Bool) : AV → Option (Option SB × Bool)
  | .bool b => some (none, b == want)
  | .sbool s => some (some s, want)
  | _ => none
theorem yielded_eq {ops : Array Oper} {j : Nat} {t : Tmp} (h : (ops[j]?).bind (·.dst) = some t) (tmps : Array Value) : yielded ops tmps j = match tmps.getD t Go.undef with | .bool b => some b | _ => none := by
  unfold yielded
  rw [h, Array.getD_eq_getD_getElem?]
  simp only [Option.bind_some]
  cases tmps[t]? with
  | none => rfl
  | some v => cases v <;> rfl
structure SameSt (st st1 : St) : Prop where
  heap : st1.heap = st.heap
  next : st1.next = st.next
  low : st1.low = st.low
  mono : Mono st st1
theorem SameSt.refl (st : St) : SameSt st st := ⟨rfl, rfl, rfl, Mono.refl _⟩
theorem want_ok {β : Type} {ops : Array Oper} {gd : Option (Nat × Bool)} {cg : Option (CA × Bool)} (C : Ctx ρ R E σ N tm a) (hg : cGuard E σ ops gd = some cg) {K : Bool → St → M β} {r : β} (h : wantK cg tm st K = .ok r) :
    ∃ b st1, K b st1 = .ok r ∧ SameSt st st1 ∧ (Conds ρ st1.tr → ∀ o : Oper, o.guard = gd → Region.wanted o (yielded ops a.tmps) = b) := by
  unfold cGuard at hg
  split at hg
  · injection hg with hg; subst hg
    exact ⟨true, st, h, SameSt.refl _, fun _ o ho => by simp [Region.wanted, ho]⟩
  · rename_i j want
    split at hg
    · rename_i t hj
      split at hg
      · rename_i x hx
        injection hg with hg; subst hg
        simp only [wantK, evAK_eq] at h
        have vx : VR ρ R (evA tm x) (a.tmps.getD t Go.undef) := by
          unfold cTmp at hx
          split at hx
          · rename_i he
            injection hx with hx; subst hx
            exact C.tr.rel t he
          · rename_i he
            exact C.sub t x (by rw [he]; simp) hx
        have hy := yielded_eq hj a.tmps
        generalize evA tm x = X at vx h
        generalize a.tmps.getD t Go.undef = cv at vx hy
        have other : (∀ b, cv ≠ .bool b) → K false st = .ok r → ∃ b st1, K b st1 = .ok r ∧ SameSt st st1 ∧ (Conds ρ st1.tr → ∀ o : Oper, o.guard = some (j, want) → Region.wanted o (yielded ops a.tmps) = b) := by
          intro hb hk
          refine ⟨false, st, hk, SameSt.refl _, fun _ o ho => ?_⟩
          have : yielded ops a.tmps j = none := by rw [hy]; cases cv <;> first | rfl | exact absurd rfl (hb _)
          simp [Region.wanted, ho, this]
        cases vx
        case bool b =>
          refine ⟨b == want, st, h, SameSt.refl _, fun _ o ho => ?_⟩
          simp only [Region.wanted, ho, hy]
          cases b <;> cases want <;> rfl
        case sbool s b hs =>
          obtain ⟨hp, nx, lo, sc, tr⟩ := st
          simp only [wantV, decK] at h
          cases sc with
          | nil => simp only at h; cases h
          | cons d sc =>
            simp only at h
            refine ⟨d == want, _, h, ⟨rfl, rfl, rfl, ⟨Nat.le_refl _, Nat.le_refl _, [_], rfl⟩⟩, fun hcd o ho => ?_⟩
            have := hcd (s, d) (by simp)
            simp only [hs] at this
            subst this
            simp only [Region.wanted, ho, hy]
            cases b <;> cases want <;> rfl
        case any => cases h
        all_goals exact other (by intro b c; cases c) h
      · cases hg
    · cases hg
theorem evOps_nil (call : CallV) (tm : T AV) (st : St) : evOps call [] tm st = .ok (tm, st) := rfl
theorem evOps_cons (call : CallV) (o : COper) (l : List COper) (tm : T AV) (st : St) : evOps call (o :: l) tm st = evOps1 call o (evOps call l) tm st := rfl
theorem Fresh.sub {n n' m m' : Nat} (f : Fresh R n n') (h1 : n ≤ m) (h2 : m' ≤ n') : Fresh R m m' := fun id a b => f id (by omega) (by omega)
theorem Step.fresh {R' : Inj} {h' : T AObj} {w' : World} {low n n1 n2 : Nat} (s : Step P ρ R h w R' h' w' low n n1) (f : Fresh R n n2) (h1 : n1 ≤ n2) (h0 : n ≤ n1) : Fresh R' n1 n2 := by
  intro id a b
  rw [s.ext id (by omega)]
  exact f id (by omega) b
theorem oper_wp {F : Fence} (hF : Wide F) {n : Nat} (CS : CallSound P ρ call) {ops : Array Oper} {o : Oper} {anc : Nat} {rest : T AV → St → M (T AV × St)} {r : T AV × St} (C : Ctx ρ R E σ N tm a)
    (h : evOps1 call (cOper P E σ ops anc o) rest tm st = .ok r) :
    ∃ v st1, rest (putD tm o.dst v) st1 = .ok r ∧ Mono st st1 ∧ ∀ w, InvW P ρ R st w → Fresh R st.next st1.next → Conds ρ st1.tr → ∀ (next : Act → World → Prop) (Q : Exit → Act → World → Prop),
      (∀ cv w' R', VR ρ R' v cv → Step P ρ R st.heap w R' st1.heap w' st1.low st.next st1.next → next (a.put o.dst cv) w') →
      (if Region.wanted o (yielded ops a.tmps) then o.wpIn F n P a w next Q else (∀ f, o.about P w a.eval = some f → F.fn f) ∧ next (a.put o.dst Go.undef) w) := by
  unfold cOper at h
  cases hg : cGuard E σ ops o.guard with
  | none =>
    rw [hg] at h
    simp only [evOps1, wantK, evOp, opBad] at h
    cases h
  | some cg =>
    rw [hg] at h
    have hw : ∃ op, wantK cg tm st (fun b st => match b with
        | false => putK tm o.dst undef fun tm => rest tm st
        | true => match evOp op tm st call with
          | .ok (v, st) => putK tm o.dst v fun tm => rest tm st
          | .error e => .error e) = .ok r ∧ (cOp P E σ o = some op ∨ op = .bad (opTag o)) := by
      cases ho : cOp P E σ o with
      | some op => rw [ho] at h; exact ⟨op, h, .inl rfl⟩
      | none => rw [ho] at h; exact ⟨.bad (opTag o), h, .inr rfl⟩
    obtain ⟨op, hk, hop⟩ := hw
    obtain ⟨b, st1, hb, hs, hwant⟩ := want_ok C hg hk
    cases b with
    | false =>
      simp only [putK_eq] at hb
      refine ⟨undef, st1, hb, hs.mono, fun w iv hf hcd next Q hK => ?_⟩
      rw [hwant hcd o rfl]
      simp only [Bool.false_eq_true, if_false]
      refine ⟨fun f _ => hF.fn f, hK _ w R VR.undef ?_⟩
      rw [hs.heap, hs.next]
      exact Step.refl iv.inv _ _
    | true =>
      simp only at hb
      split at hb
      · rename_i v st2 hev
        simp only [putK_eq] at hb
        rcases hop with hop | rfl
        · have hm := (op_run CS C hop hev).1
          refine ⟨v, st2, hb, hs.mono.trans hm, fun w iv hf hcd next Q hK => ?_⟩
          rw [hwant (hm.conds hcd) o rfl]
          simp only [if_true]
          refine op_wp hF CS C hop hev ⟨by rw [hs.heap]; exact iv.inv, by rw [hs.heap, hs.next]; exact iv.wf⟩ (by rw [hs.next]; exact hf) hcd fun cv w' R' hv hst => hK cv w' R' hv ?_
          rw [hs.heap, hs.next] at hst
          exact hst
        · simp only [evOp, opBad] at hev; cases hev
      · cases hb
end
end Go.Ab

namespace Go.Ab
def CallMono (call : CallV) : Prop := ∀ fn args st v st', call fn args st = .ok (v, st') → Mono st st'
section
variable {tm : T AV} {st st' : St} {v : AV} {call : CallV}
theorem ok_mono {w : AV} {s : St} (h : (Except.ok (w, s) : M (AV × St)) = .ok (v, st')) (m : Mono st s) : Mono st st' := (ok_inj h).2 ▸ m
theorem err_mono {s : String} (h : (err s : M (AV × St)) = .ok (v, st')) : Mono st st' := by cases h
theorem minmax_mono (lt : Bool) : ∀ (l : List AV) (x : AV), minmax lt st x l = .ok (v, st') → Mono st st' := by
  intro l
  induction l with
  | nil => intro x h; cases x <;> (simp only [minmax] at h; exact ok_mono h (Mono.refl _))
  | cons y l ih =>
    intro x h
    cases x <;> (try (simp only [minmax] at h)) <;> try (exact err_mono h)
    cases y <;> (try (simp only [minmax] at h)) <;> try (exact err_mono h)
    repeat' split at h
    all_goals first
      | exact ih _ h
      | exact err_mono h
theorem notA_mono {x : AV} (h : notA st x = .ok (v, st')) : Mono st st' := by
  unfold notA at h
  repeat' split at h
  all_goals first
    | exact ok_mono h (Mono.refl _)
    | exact err_mono h
theorem retEq_mono {b : Bool} {x : M AV} (h : retEq b st x = .ok (v, st')) : Mono st st' := by
  unfold retEq at h
  repeat' split at h
  all_goals first
    | (cases h; done)
    | exact ok_mono h (Mono.refl _)
    | exact err_mono h
theorem evBin_mono {op : BinOp} {x y : AV} (h : evBin op x y st = .ok (v, st')) : Mono st st' := by
  simp only [evBin, binInt, binSym, binStr, evStr, symBin, strAdd, retI, retB, forceN_eq, forceI_eq] at h
  repeat' split at h
  all_goals first
    | (cases h; done)
    | exact ok_mono h (Mono.refl _)
    | exact err_mono h
    | (simp only [forceN_eq, forceI_eq] at h; exact ok_mono h (Mono.refl _))
theorem pick_mono {X A B : AV} (h : (decK X st fun d st => match d with | true => .ok (A, st) | false => .ok (B, st) : M (AV × St)) = .ok (v, st')) : Mono st st' := by
  unfold decK at h
  cases X <;> (try simp only at h) <;> try (cases h; done)
  case bool b => cases b <;> exact ok_mono h (Mono.refl _)
  case sbool s =>
    obtain ⟨hp, nx, lo, sc, tr⟩ := st
    cases sc with
    | nil => simp only at h; cases h
    | cons d sc =>
      simp only at h
      cases d <;> exact ok_mono h ⟨Nat.le_refl _, Nat.le_refl _, [_], rfl⟩
theorem evOp_mono (cm : CallMono call) {co : CO} (h : evOp co tm st call = .ok (v, st')) : Mono st st' := by
  cases co
  case call f l => simp only [evOp, opCall, evAsK_eq] at h; exact cm _ _ _ _ _ h
  case callV f l =>
    simp only [evOp, opCallV, evAK_eq, evAsK_eq] at h
    split at h
    · exact cm _ _ _ _ _ h
    · cases h
  all_goals simp only [evOp, opMv, opPick, opNewc, opBox, opBuild, opBuildSlice, opLoad1, opLoadN, opStore, opNilCheck, opBin, opEql, opUn, opConvInt, opSame, opStrOfBytes, opBytesOfStr, opStrOfInt, opMkIface, opMkFunc, opMkMap, opMkSlice, opSliceStr, opSliceSl, opSliceArr, opFieldAddr, opField, opIdxAddrArr, opIdxAddrSl, opIdxArr, opIdxStr, opLookup, opMapUpd, opRange, opNext, opEntry, opExtract, opAppend, opCopy, opDelete, opClear, opLenStr, opLenSl, opLenArr, opLenMap, opCapSl, opMin, opMax, opSliceData, opUnsafeStr, opTyAssert, opUnsafeTo, opUnsafeFrom, evStrOfBytes, evLookup, evMapUpd, evAppend, evCopy, evDelete, evClear, evLenMap, evUnsafeStr, opBad, storeAt, copyTo, nextStr, nextMap, sliceOf, sliceNil, retFind, retI, retB, retL, appendNew, appendTo, evAK_eq, evAsK_eq, forceN_eq, forceI_eq, T.ofListK_eq, St.newK_eq, St.putK_eq] at h
  all_goals (repeat' split at h)
  all_goals first
    | (cases h; done)
    | exact err_mono h
    | exact ok_mono h (Mono.refl _)
    | exact ok_mono h (Mono.new _ _)
    | exact ok_mono h (Mono.put _ _ _)
    | exact ok_mono h ((Mono.kill _ _).trans (Mono.new _ _))
    | exact evBin_mono h
    | exact retEq_mono h
    | exact notA_mono h
    | exact minmax_mono _ _ _ h
    | skip
  all_goals exact pick_mono h
theorem decK_mono {β : Type} {X : AV} {K : Bool → St → M β} {r : β} (h : decK X st K = .ok r) : ∃ b st1, K b st1 = .ok r ∧ Mono st st1 := by
  unfold decK at h
  cases X <;> (try simp only at h) <;> try (cases h; done)
  case bool b => exact ⟨b, st, h, Mono.refl _⟩
  case sbool s =>
    obtain ⟨hp, nx, lo, sc, tr⟩ := st
    cases sc with
    | nil => simp only at h; cases h
    | cons d sc => exact ⟨d, _, h, ⟨Nat.le_refl _, Nat.le_refl _, [_], rfl⟩⟩
theorem wantK_mono {β : Type} {g : Option (CA × Bool)} {K : Bool → St → M β} {r : β} (h : wantK g tm st K = .ok r) : ∃ b st1, K b st1 = .ok r ∧ Mono st st1 := by
  unfold wantK at h
  split at h
  · exact ⟨true, st, h, Mono.refl _⟩
  · rename_i x want
    simp only [evAK_eq] at h
    unfold wantV at h
    split at h
    · exact ⟨_, st, h, Mono.refl _⟩
    · obtain ⟨b, st1, h1, h2⟩ := decK_mono h
      exact ⟨_, st1, h1, h2⟩
    · cases h
    · exact ⟨false, st, h, Mono.refl _⟩
theorem evOps1_mono (cm : CallMono call) {o : COper} {rest : T AV → St → M (T AV × St)} {r : T AV × St} (h : evOps1 call o rest tm st = .ok r) : ∃ tm1 st1, rest tm1 st1 = .ok r ∧ Mono st st1 := by
  obtain ⟨dst, op, g, anc⟩ := o
  simp only [evOps1] at h
  obtain ⟨b, st1, h1, h2⟩ := wantK_mono h
  cases b with
  | false => simp only [putK_eq] at h1; exact ⟨_, st1, h1, h2⟩
  | true =>
    simp only at h1
    split at h1
    · rename_i v st2 hev
      simp only [putK_eq] at h1
      exact ⟨_, st2, h1, h2.trans (evOp_mono cm hev)⟩
    · cases h1
theorem evOps_mono (cm : CallMono call) : ∀ (l : List COper) (tm : T AV) (st : St) (tm' : T AV) (st' : St), evOps call l tm st = .ok (tm', st') → Mono st st' := by
  intro l
  induction l with
  | nil =>
    intro tm st tm' st' h
    have h : (Except.ok (tm, st) : M (T AV × St)) = .ok (tm', st') := h
    simp only [Except.ok.injEq, Prod.mk.injEq] at h
    rw [h.2]; exact Mono.refl _
  | cons o l ih =>
    intro tm st tm' st' h
    obtain ⟨tm1, st1, h1, h2⟩ := evOps1_mono cm (rest := evOps call l) h
    exact h2.trans (ih _ _ _ _ h1)
end
end Go.Ab

namespace Go.Ab
section
variable {P : Program} {ρ : Nat → Int} {R : Inj} {E : T Unit} {σ : Sub} {N : Nat} {tm tm' : T AV} {a : Act} {st st' : St} {v : AV} {call : CallV} {h : T AObj} {w : World}
theorem Fresh.ext {n n' : Nat} {R' : Inj} {h h' : T AObj} {w' : World} {low : Nat} (s : Step P ρ R h w R' h' w' low n n') (f : Fresh R n n') : Ext R R' := s.mono f
theorem range'_cons (i k : Nat) : List.range' i (k + 1) = i :: List.range' (i + 1) k := rfl
theorem ops_wp {F : Fence} (hF : Wide F) {n : Nat} (CS : CallSound P ρ call) {ops : Array Oper} :
    ∀ (l : List Oper) (i : Nat) (σ : Sub) (tm : T AV) (st : St), ops.toList.drop i = l → evOps call (cOpers P E N ops σ l) tm st = .ok (tm', st') →
      Mono st st' ∧ ∀ (R : Inj) (a : Act) (w : World), TR ρ R E N tm a.tmps → SubAll ρ R σ tm a.tmps → Glob R → InvW P ρ R st w → Fresh R st.next st'.next → Conds ρ st'.tr →
        ∀ (Q : Exit → Act → World → Prop), (∀ a' w' R', TR ρ R' E N tm' a'.tmps → a'.defers = a.defers → Step P ρ R st.heap w R' st'.heap w' st'.low st.next st'.next → Q .normal a' w') →
        wpOpsIn F n P ops Q (List.range' i l.length) a w := by
  intro l
  induction l with
  | nil =>
    intro i σ tm st _ h
    simp only [cOpers, evOps_nil, Except.ok.injEq, Prod.mk.injEq] at h
    obtain ⟨rfl, rfl⟩ := h
    exact ⟨Mono.refl _, fun R a w t _ _ iv _ _ Q hQ => hQ a w R t rfl (Step.refl iv.inv _ _)⟩
  | cons o l ih =>
    intro i σ tm st hd h
    have hget : ops[i]? = some o := by
      have : (ops.toList.drop i)[0]? = some o := by rw [hd]; rfl
      simpa using this
    have hd' : ops.toList.drop (i + 1) = l := by
      have : (ops.toList.drop i).drop 1 = l := by rw [hd]; rfl
      rw [List.drop_drop] at this
      exact this
    have keep : ∀ σ', (∀ R v cv tmps, SubAll ρ R σ tm tmps → SubAll ρ R σ' (putD tm o.dst v) (match o.dst with | some d => tmps.setIfInBounds d cv | none => tmps)) →
        (∀ d, o.dst = some d → d < N) → evOps1 call (cOper P E σ ops 0 o) (evOps call (cOpers P E N ops σ' l)) tm st = .ok (tm', st') →
        Mono st st' ∧ ∀ (R : Inj) (a : Act) (w : World), TR ρ R E N tm a.tmps → SubAll ρ R σ tm a.tmps → Glob R → InvW P ρ R st w → Fresh R st.next st'.next → Conds ρ st'.tr →
          ∀ (Q : Exit → Act → World → Prop), (∀ a' w' R', TR ρ R' E N tm' a'.tmps → a'.defers = a.defers → Step P ρ R st.heap w R' st'.heap w' st'.low st.next st'.next → Q .normal a' w') →
          wpOpsIn F n P ops Q (List.range' i (l.length + 1)) a w := by
      intro σ' hσ hdN h
      refine ⟨evOps_mono CS.mono (cOper P E σ ops 0 o :: cOpers P E N ops σ' l) tm st _ _ h, fun R a w t sa gl iv hf hcd Q hQ => ?_⟩
      have C : Ctx ρ R E σ N tm a := ⟨t, sa.ok, gl⟩
      obtain ⟨v, st1, h1, hm, hrun⟩ := oper_wp (n := n) hF CS C h
      obtain ⟨hm2, hrest⟩ := ih (i + 1) σ' _ st1 hd' h1
      simp only [range'_cons, wpOpsIn, hget]
      refine hrun w iv (hf.sub (Nat.le_refl _) hm2.next) (hm2.conds hcd) _ Q fun cv w' R' hv hst => ?_
      have ext : Ext R R' := hst.mono (hf.sub (Nat.le_refl _) hm2.next)
      have t' : TR ρ R' E N (putD tm o.dst v) (a.put o.dst cv).tmps := by
        cases hd : o.dst with
        | none => exact t.mono ext
        | some d => exact (t.mono ext).set (hdN d hd) hv
      have sa' : SubAll ρ R' σ' (putD tm o.dst v) (a.put o.dst cv).tmps := by
        have := hσ R' v cv a.tmps (sa.mono ext)
        cases hd : o.dst with
        | none => rw [hd] at this; exact this
        | some d => rw [hd] at this; exact this
      refine hrest R' _ w' t' sa' (gl.mono ext) (hst.toW iv hm.next) (hst.fresh hf hm2.next hm.next) hcd Q fun a'' w'' R'' t'' d'' s'' => hQ a'' w'' R'' t'' ?_ (hst.trans s'' hm2.low hm.next hm2.next)
      rw [d'']; cases o.dst <;> rfl
    have bad : ∀ (c : COper) (rest : List COper), (∃ k, c.op = .bad k) → c.guard = none → evOps call (c :: rest) tm st ≠ .ok (tm', st') := by
      intro c rest hk hg hc
      obtain ⟨dst, op, g, anc⟩ := c
      obtain ⟨k, hk⟩ := hk
      simp only at hk hg
      subst hk; subst hg
      simp only [evOps_cons, evOps1, wantK, evOp, opBad] at hc
      cases hc
    simp only [List.length_cons]
    cases hdst : o.dst with
    | none =>
      simp only [cOpers, hdst] at h
      exact keep σ (fun R v cv tmps sa => by simp only [hdst, putD]; exact sa) (fun d hd => by rw [hdst] at hd; cases hd) h
    | some d =>
      simp only [cOpers, hdst] at h
      cases hlt : Nat.blt d N with
      | false => rw [hlt] at h; exact absurd h (bad _ _ ⟨_, rfl⟩ rfl)
      | true =>
        rw [hlt] at h; simp only at h
        have hdN := blt_true hlt
        cases hE : E.get d with
        | none =>
          rw [hE] at h; simp only at h
          exact keep (σ.drop d) (fun R v cv tmps sa => by simp only [hdst, putD]; exact sa.set d v cv) (fun d' hd => by rw [hdst] at hd; injection hd with hd; rw [← hd]; exact hdN) h
        | some _ =>
          rw [hE] at h; simp only at h
          cases hmv : cMove E σ o with
          | none => rw [hmv] at h; exact absurd h (bad _ _ ⟨_, rfl⟩ rfl)
          | some x =>
            rw [hmv] at h; simp only at h
            obtain ⟨hm, hrest⟩ := ih (i + 1) _ tm st hd' h
            refine ⟨hm, fun R a w t sa gl iv hf hcd Q hQ => ?_⟩
            obtain ⟨y, hy, hg, hrun, hnd⟩ : ∃ y, cOpnd E σ y = some x ∧ o.guard = none ∧ execOp a.eval o = pure (.value (a.eval y)) ∧ (∀ c, o.op ≠ .defer c) := by
              unfold cMove at hmv
              split at hmv
              · cases hmv
              · rename_i hg
                split at hmv
                · rename_i y ho; exact ⟨y, hmv, hg, by simp [execOp, ho], fun c e => by rw [ho] at e; cases e⟩
                · rename_i y ho; exact ⟨y, hmv, hg, by simp [execOp, ho], fun c e => by rw [ho] at e; cases e⟩
                · cases hmv
            have C : Ctx ρ R E σ N tm a := ⟨t, sa.ok, gl⟩
            have hv := C.opnd hy
            simp only [range'_cons, wpOpsIn, hget]
            rw [show Region.wanted o (yielded ops a.tmps) = true by simp [Region.wanted, hg]]
            simp only [if_true]
            refine ⟨fun f _ => hF.fn f, ?_⟩
            rw [Oper.semAt_eq _ _ _ hnd, hrun, Sem.run_pure, Oper.uponIn_value, hdst]
            have sa' : SubAll ρ R ((d, x) :: σ.drop d) tm (a.put (some d) (a.eval y)).tmps := sa.move (by rw [t.size]; exact hdN) hv
            exact hrest R _ w (t.skip (by rw [hE]; simp) _) sa' gl iv hf hcd Q fun a'' w'' R'' t'' d'' s'' => hQ a'' w'' R'' t'' d'' s''
end
end Go.Ab

namespace Go.Ab
def exOf : Ex → Exit
  | .normal => .normal
  | .exit i => .exit i
  | .ret => .ret
inductive Marks (R : Inj) : List Nat → List Deferred → Prop
  | nil : Marks R [] []
  | cons (r : Nat) (l : Loc) (mk : List Nat) (ds : List Deferred) (h : R r = some l) (hs : Marks R mk ds) : Marks R (r :: mk) ({ target := .collected l.b, args := #[] } :: ds)
theorem Marks.mono {R R' : Inj} (h : Ext R R') {mk : List Nat} {ds : List Deferred} (m : Marks R mk ds) : Marks R' mk ds := by
  induction m with
  | nil => exact .nil
  | cons r l mk ds e _ ih => exact .cons r l mk ds (h _ _ e) ih
def fenceOf : Option Nat → Fence
  | none => Fence.wide
  | some l => Fence.wide.inRound l
theorem fenceOf_wide (r : Option Nat) : Wide (fenceOf r) := by
  cases r with
  | none => exact .inl rfl
  | some l => exact .inr ⟨l, rfl⟩
def EvMono (rec : EvF) : Prop := ∀ rnd c tm mk st e tm' mk' st', rec rnd c tm mk st = .ok e tm' mk' st' → Mono st st'
def EvSound (P : Program) (ρ : Nat → Int) (rec : EvF) : Prop :=
  ∀ (E : T Unit) (N : Nat) (ro : Option Nat) (c : Code) tm mk st e tm' mk' st', rec ro.isSome (cCode P E N c) tm mk st = .ok e tm' mk' st' →
    ∀ (R : Inj) (a : Act) (w : World), TR ρ R E N tm a.tmps → Marks R mk a.defers → Glob R → InvW P ρ R st w → Fresh R st.next st'.next → Conds ρ st'.tr →
      ∀ (Q : Exit → Act → World → Prop), (∀ a' w' R', TR ρ R' E N tm' a'.tmps → Marks R' mk' a'.defers → Step P ρ R st.heap w R' st'.heap w' st'.low st.next st'.next → Q (exOf e) a' w') →
      c.wpIn (fenceOf ro) 0 P Q a w
end Go.Ab

namespace Go.Ab
structure DMono (s s' : DR) : Prop where
  next : s.next ≤ s'.next
  low : s'.low ≤ s.low
  tr : ∃ l, s'.tr = l ++ s.tr
theorem DMono.refl (s : DR) : DMono s s := ⟨Nat.le_refl _, Nat.le_refl _, [], rfl⟩
theorem DMono.trans {a b c : DR} (h : DMono a b) (h' : DMono b c) : DMono a c :=
  ⟨Nat.le_trans h.next h'.next, Nat.le_trans h'.low h.low, let ⟨l, e⟩ := h.tr; let ⟨l', e'⟩ := h'.tr; ⟨l' ++ l, by rw [e', e, List.append_assoc]⟩⟩
section
variable {call : CallV} {i : Nat} {o : COper} {s s' : DR} {v : AV}
theorem evAlloc_mono (cm : CallMono call) (h : evAlloc call i o s = .ok (v, s')) : DMono s s' := by
  unfold evAlloc at h
  split at h
  · cases h
  · rename_i v1 st1 he
    have m := evOp_mono cm he
    split at h
    · simp only [Except.ok.injEq, Prod.mk.injEq] at h
      obtain ⟨_, rfl⟩ := h
      exact ⟨m.next, Nat.le_refl _, m.tr⟩
    · cases h
theorem evMany_mono (cm : CallMono call) (h : evMany call i o s = .ok (v, s')) : DMono s s' := by
  unfold evMany at h
  split at h
  · cases h
  · rename_i v1 st1 he
    have m := evOp_mono cm he
    split at h
    · cases h
    · split at h
      · simp only [Except.ok.injEq, Prod.mk.injEq] at h
        obtain ⟨_, rfl⟩ := h
        exact ⟨m.next, Nat.le_refl _, m.tr⟩
      · split at h
        · cases h
        · simp only [Except.ok.injEq, Prod.mk.injEq] at h
          obtain ⟨_, rfl⟩ := h
          exact ⟨m.next, (lowered_le _ _).1, m.tr⟩
theorem evPureR_mono (cm : CallMono call) (h : evPureR call o s = .ok (v, s')) : DMono s s' := by
  unfold evPureR at h
  split at h
  · cases h
  · rename_i v1 st1 he
    have m := evOp_mono cm he
    simp only [Except.ok.injEq, Prod.mk.injEq] at h
    obtain ⟨_, rfl⟩ := h
    exact ⟨Nat.le_refl _, Nat.le_refl _, m.tr⟩
theorem evDrawOp_mono (cm : CallMono call) (h : evDrawOp call i o s = .ok (v, s')) : DMono s s' := by
  unfold evDrawOp at h
  split at h
  · exact evPureR_mono cm h
  · exact evAlloc_mono cm h
  · split at h
    · unfold evLoadR at h
      split at h
      · simp only [Except.ok.injEq, Prod.mk.injEq] at h
        obtain ⟨_, rfl⟩ := h
        exact ⟨Nat.le_refl _, Nat.le_refl _, [], rfl⟩
      · exact evMany_mono cm h
    · exact evMany_mono cm h
theorem evDraw_mono (cm : CallMono call) : ∀ (l : List COper) (i : Nat) (s s' : DR), evDraw call l i s = .ok s' → DMono s s' := by
  intro l
  induction l with
  | nil => intro i s s' h; simp only [evDraw, Except.ok.injEq] at h; subst h; exact DMono.refl _
  | cons o l ih =>
    intro i s s' h
    simp only [evDraw] at h
    obtain ⟨b, st1, h1, hm⟩ := wantK_mono h
    cases b with
    | false =>
      simp only [putK_eq] at h1
      have := ih _ _ _ h1
      exact ⟨this.next, this.low, let ⟨l1, e1⟩ := this.tr; let ⟨l2, e2⟩ := hm.tr; ⟨l1 ++ l2, by rw [e1, List.append_assoc]; exact congrArg _ e2⟩⟩
    | true =>
      simp only at h1
      split at h1
      · rename_i v s1 he
        simp only [putK_eq] at h1
        have m1 := evDrawOp_mono cm he
        have m2 := ih _ _ _ h1
        exact ⟨Nat.le_trans m1.next m2.next, Nat.le_trans m2.low m1.low, let ⟨l1, e1⟩ := m2.tr; let ⟨l2, e2⟩ := m1.tr; let ⟨l3, e3⟩ := hm.tr; ⟨l1 ++ (l2 ++ l3), by rw [e1]; simp only at e2 e3 ⊢; rw [e2, e3, List.append_assoc, List.append_assoc]⟩⟩
      · cases h1
theorem evDrawAll_mono (cm : CallMono call) {ops : List COper} {tm tm' : T AV} {st st' : St} (h : evDrawAll call ops tm st = .ok (tm', st')) : Mono st st' := by
  obtain ⟨hp, n, lo, sc, tr⟩ := st
  simp only [evDrawAll] at h
  split at h
  · cases h
  · rename_i s he
    have m := evDraw_mono cm _ _ _ _ he
    split at h
    · simp only [Except.ok.injEq, Prod.mk.injEq] at h
      obtain ⟨_, rfl⟩ := h
      exact ⟨m.next, m.low, m.tr⟩
    · cases h
end
end Go.Ab

namespace Go.Ab
section
variable {rec : EvF} {G : Env} {st st' : St} {v : AV}
theorem dropMarks_mono : ∀ (mk : List Nat) (st st' : St), dropMarks mk st = some st' → Mono st st' := by
  intro mk
  induction mk with
  | nil => intro st st' h; simp only [dropMarks, Option.some.injEq] at h; subst h; exact Mono.refl _
  | cons r l ih =>
    intro st st' h
    simp only [dropMarks] at h
    split at h
    · exact (Mono.kill _ _).trans (ih _ _ h)
    · cases h
theorem endCall_mono {cf : CFunc} {r : Res} {st0 : St} (hr : ∀ e tm mk st, r = .ok e tm mk st → Mono st0 st) (h : endCall cf r = .ok (v, st')) : Mono st0 st' := by
  unfold endCall at h
  split at h
  · cases h
  · rename_i e tm mk st
    split at h
    · cases h
    · split at h
      · cases h
      · rename_i st1 hd
        split at h
        · exact (hr _ _ _ _ rfl).trans ((dropMarks_mono _ _ _ hd).trans (ok_mono h (Mono.refl _)))
        · cases h
theorem callFn_mono (hrec : EvMono rec) (hov : ∀ f o args st v st', G.ov.get f = some o → o args st = .ok (v, st') → Mono st st') {f : Nat} {args : List AV} (h : callFn G rec f args st = .ok (v, st')) : Mono st st' := by
  unfold callFn at h
  split at h
  · rename_i o ho; exact hov _ _ _ _ _ _ ho h
  · split at h
    · cases h
    · simp only [callBody, T.ofListK_eq] at h
      split at h
      · exact endCall_mono (fun e tm mk st1 he => hrec _ _ _ _ _ _ _ _ _ he) h
      · cases h
theorem callRound_mono (hrec : EvMono rec) {l : Nat} {args : List AV} (h : callRound rec l args st = .ok (v, st')) : Mono st st' := by
  unfold callRound at h
  split at h
  · split at h
    · split at h
      · rename_i he1
        have m1 := hrec _ _ _ _ _ _ _ _ _ he1
        split at h
        · split at h
          · split at h
            · rename_i he2
              have m2 := hrec _ _ _ _ _ _ _ _ _ he2
              have m := m1.trans ((Mono.put _ _ _).trans m2)
              split at h
              · split at h
                · exact ok_mono h (m.trans (Mono.put _ _ _))
                · exact ok_mono h (m.trans (Mono.put _ _ _))
              · cases h
            · cases h
            · cases h
          · cases h
        · cases h
      · cases h
      · cases h
    · cases h
  · cases h
end
end Go.Ab

namespace Go.Ab
section
variable {rec : EvF} {G : Env} {st0 st st' : St} {v : AV} {tm tm' : T AV} {mk mk' : List Nat} {e : Ex}
def ResMono (st0 : St) (r : Res) : Prop := ∀ e tm mk st, r = .ok e tm mk st → Mono st0 st
theorem ResMono.ok (h : Mono st0 st) : ResMono st0 (.ok e tm mk st) := by
  intro e' tm' mk' st' he; injection he with _ _ _ h4; exact h4 ▸ h
theorem ResMono.bad (s : String) : ResMono st0 (.bad s) := by intro _ _ _ _ he; cases he
theorem ResMono.endOps {x : M (T AV × St)} (h : ∀ tm st, x = .ok (tm, st) → Mono st0 st) : ResMono st0 (Ab.endOps mk x) := by
  unfold Ab.endOps; split
  · exact .ok (h _ _ rfl)
  · exact .bad _
theorem ResMono.thenK {K : T AV → List Nat → St → Res} {r : Res} (h : ResMono st0 r) (hk : ∀ tm mk st, Mono st0 st → ResMono st0 (K tm mk st)) : ResMono st0 (thenK K r) := by
  unfold Ab.thenK; split
  · rename_i e tm mk st
    have m := h _ _ _ _ rfl
    split
    · exact hk _ _ _ m
    · exact .ok m
  · exact .bad _
theorem ResMono.endBlock {i : Nat} {r : Res} (h : ResMono st0 r) : ResMono st0 (endBlock i r) := by
  unfold Ab.endBlock; split
  · rename_i e tm mk st
    have m := h _ _ _ _ rfl
    split
    · split
      · exact .ok m
      · exact .ok m
    · exact .ok m
  · exact .bad _
theorem ResMono.decR {X : AV} {K : Bool → St → Res} (hk : ∀ b st1, Mono st st1 → ResMono st (K b st1)) : ResMono st (decR X st K) := by
  unfold Ab.decR
  split
  · exact hk _ _ (Mono.refl _)
  · split
    · exact hk _ _ ⟨Nat.le_refl _, Nat.le_refl _, [_], rfl⟩
    · exact .bad _
  · exact .bad _
theorem callAny_mono (hrec : EvMono rec) (hov : ∀ f o args st v st', G.ov.get f = some o → o args st = .ok (v, st') → Mono st st') : CallMono (callAny G rec) := by
  intro fn args st v st' h
  cases fn with
  | func f => exact callFn_mono hrec hov h
  | yield l => exact callRound_mono hrec h
theorem evStep_mono (hrec : EvMono rec) (hov : ∀ f o args st v st', G.ov.get f = some o → o args st = .ok (v, st') → Mono st st') : EvMono (evStep G rec) := by
  have cm := callAny_mono hrec hov
  have hr : ∀ rnd c tm mk st, ResMono st (rec rnd c tm mk st) := fun rnd c tm mk st e tm' mk' st' h => hrec _ _ _ _ _ _ _ _ _ h
  intro rnd c tm mk st
  have key : ResMono st (evStep G rec rnd c tm mk st) := by
    unfold evStep evCode
    cases c with
    | skip => exact .ok (Mono.refl _)
    | ret => exact .ok (Mono.refl _)
    | exit i => exact .ok (Mono.refl _)
    | region ops => exact .endOps fun tm st h => evOps_mono cm _ _ _ _ _ h
    | draw ops => exact .endOps fun tm st h => evDrawAll_mono cm h
    | seq a b => exact .thenK (hr _ _ _ _ _) fun tm mk st1 m e tm' mk' st' h => m.trans (hr _ _ _ _ _ _ _ _ _ h)
    | cond c a b =>
      simp only [cdCond, evAK_eq]
      refine .decR fun d st1 m => ?_
      cases d
      · exact fun e tm' mk' st' h => m.trans (hr _ _ _ _ _ _ _ _ _ h)
      · exact fun e tm' mk' st' h => m.trans (hr _ _ _ _ _ _ _ _ _ h)
    | block i b => exact .endBlock (hr _ _ _ _ _)
    | loop b => exact .thenK (hr _ _ _ _ _) fun tm mk st1 m e tm' mk' st' h => m.trans (hr _ _ _ _ _ _ _ _ _ h)
    | rangeFunc f ps a b =>
      unfold cdRange
      cases rnd with
      | true => exact .bad _
      | false =>
        simp only [evAK_eq]
        split
        · split
          · simp only [St.newK_eq]
            unfold endRange
            split
            · rename_i hc
              have m := callFn_mono hrec hov hc
              split
              · split
                · exact .ok ((Mono.new _ _).trans ((Mono.new _ _).trans (m.trans (Mono.kill _ _))))
                · exact .bad _
              · exact .bad _
            · exact .bad _
          · exact .bad _
        · exact .bad _
    | fail => exact .bad _
  exact fun e tm' mk' st' h => key e tm' mk' st' h
end
end Go.Ab

namespace Go.Ab
section
variable {P : Program} {ρ : Nat → Int} {R : Inj} {h : T AObj} {w : World}
theorem Step.free (i : Inv P ρ R h w) {id : Nat} {o : AObj} {l : Loc} {x : Obj} (ho : h.get id = some o) (hr : R id = some l) {low n : Nat} (hl : low ≤ id) :
    Step P ρ R h w R (h.del id) { w with heap := w.heap.setIfInBounds l.b x } low n n := by
  have hget : ∀ b, b ≠ l.b → (w.heap.setIfInBounds l.b x)[b]? = w.heap[b]? := fun b hb => Array.getElem?_setIfInBounds_ne (fun c => hb c.symm)
  have hex : ∀ k ok, (h.del id).get k = some ok → h.get k = some ok ∧ k ≠ id := by
    intro k ok hk; rw [T.get_del] at hk
    by_cases e : k = id
    · rw [if_pos e] at hk; cases hk
    · rw [if_neg e] at hk; exact ⟨hk, e⟩
  refine ⟨⟨fun j oj hj => ?_, fun a b oa ob la lb ha hb ra rb e => i.inj a b oa ob la lb (hex _ _ ha).1 (hex _ _ hb).1 ra rb e⟩, fun _ _ => rfl, by simp, fun b hb => ?_, fun j oj lj hj rj => .inl ⟨oj, (hex _ _ hj).1, rj⟩, rfl, rfl, rfl, fun j h0 _ => by rw [T.get_del]; split <;> first | rfl | exact h0⟩
  · obtain ⟨hj', hne⟩ := hex _ _ hj
    obtain ⟨l', x', e', hx', r'⟩ := i.live j oj hj'
    refine ⟨l', x', e', ?_, r'⟩
    rw [← hx']; exact hget _ fun c => hne (i.inj j id oj o l' l hj' ho e' hr c)
  · exact hget b fun c => hb (.inr ⟨id, o, l, hl, ho, hr, c.symm⟩)
end
theorem exists_min {p : Nat → Prop} : ∀ n, p n → ∃ m, p m ∧ ∀ k, p k → m ≤ k := by
  intro n
  induction n using Nat.strongRecOn with
  | _ n ih =>
    intro h
    by_cases hk : ∃ k, k < n ∧ p k
    · obtain ⟨k, hlt, hp⟩ := hk; exact ih k hlt hp
    · exact ⟨n, h, fun k hp => Nat.le_of_not_lt fun c => hk ⟨k, c, hp⟩⟩
open Classical in
theorem wpIn_loop_n {F : Fence} {n : Nat} {P : Program} {Q : Exit → Act → World → Prop} {c : Code} (J : Nat → Act → World → Prop)
    (round : ∀ m a w, J m a w → c.wpIn F n P (Exit.then (fun a' w' => ∃ m', m' < m ∧ J m' a' w') Q) a w) {m : Nat} {a : Act} {w : World} (h : J m a w) : (Code.loop c).wpIn F n P Q a w := by
  have mn : ∀ a w, (∃ m, J m a w) → ∃ m, J m a w ∧ ∀ k, J k a w → m ≤ k := fun a w ⟨m, hm⟩ => exists_min m hm
  let μ : Act → World → Nat := fun a w => if h : ∃ m, J m a w then (mn a w h).choose else 0
  have hμ : ∀ a w (h : ∃ m, J m a w), J (μ a w) a w ∧ ∀ k, J k a w → μ a w ≤ k := by
    intro a w h
    have := (mn a w h).choose_spec
    simp only [μ, dif_pos h]
    exact this
  refine wpIn_loop (fun a w => ∃ m, J m a w) μ ⟨m, h⟩ fun a w hI => ?_
  refine wpIn_mono (round _ a w (hμ a w hI).1) fun e a' w' hq => ?_
  cases e <;> try exact hq
  obtain ⟨m', hlt, hj⟩ := hq
  exact ⟨⟨m', hj⟩, Nat.lt_of_le_of_lt ((hμ a' w' ⟨m', hj⟩).2 m' hj) hlt⟩
section
variable {P : Program} {ρ : Nat → Int} {R : Inj} {h : T AObj} {w : World} {E : T Unit} {N : Nat} {tm : T AV} {a : Act}
def resOne (tmps : Array Value) : ResultVar → Sem Value
  | .tmp t => pure (tmps.getD t Go.undef)
  | .cell a t => do loadVar t (← asAddr (tmps.getD a Go.undef))
theorem results_eq (fn : Func) (tmps : Array Value) {l : List Value} (h : (fn.results.toList.mapM (resOne tmps)).run P w = .ok l w) : (results fn tmps).run P w = .ok (if h : l.length = 1 then l[0] else .tuple l.toArray) w := by
  have e : (results fn tmps) = (do let vs ← fn.results.mapM (resOne tmps); pure (if h : vs.size = 1 then vs[0] else .tuple vs)) := by
    unfold results
    congr 1
  rw [e, Array.mapM_eq_mapM_toList]
  simp [Sem.run_map, h]
theorem results_ok (t : TR ρ R E N tm a.tmps) (iv : Inv P ρ R h w) : ∀ {rs : List ResultVar} {cr : List CRes} {l : List AV}, cRes P E rs = some cr → evResults tm h cr = some l →
    ∃ vs, (rs.mapM (resOne a.tmps)).run P w = .ok vs w ∧ VRs ρ R l vs := by
  intro rs
  induction rs with
  | nil => intro cr l hc he; simp only [cRes, Option.some.injEq] at hc; subst hc; simp only [evResults, Option.some.injEq] at he; subst he; exact ⟨[], by simp, .nil⟩
  | cons r rs ih =>
    intro cr l hc he
    cases r with
    | tmp i =>
      simp only [cRes] at hc
      cases hE : E.get i with
      | some _ => rw [hE] at hc; cases hc
      | none =>
        rw [hE] at hc
        obtain ⟨cr', hc', hc⟩ := bind_some hc
        simp only [Option.some.injEq] at hc; subst hc
        simp only [evResults] at he
        cases hr : evResults tm h cr' with
        | none => rw [hr] at he; cases he
        | some l' =>
          rw [hr] at he; simp only [Option.some.injEq] at he; subst he
          obtain ⟨vs, hv, hr'⟩ := ih hc' hr
          exact ⟨_, by simp [List.mapM_cons, Sem.run_bind, resOne, hv], .cons _ _ _ _ (t.rel i hE) hr'⟩
    | cell i ty =>
      simp only [cRes] at hc
      cases hE : E.get i with
      | some _ => rw [hE] at hc; cases hc
      | none =>
        rw [hE] at hc
        obtain ⟨n, hn, hc⟩ := bind_some hc
        obtain ⟨cr', hc', hc⟩ := bind_some hc
        simp only [Option.some.injEq] at hc; subst hc
        simp only [evResults] at he
        cases hld : loadAt h (evA tm (.t i)) n with
        | none => rw [hld] at he; cases he
        | some v =>
          rw [hld] at he; simp only at he
          cases hr : evResults tm h cr' with
          | none => rw [hr] at he; cases he
          | some l' =>
            rw [hr] at he; simp only [Option.some.injEq] at he; subst he
            obtain ⟨vs, hv, hr'⟩ := ih hc' hr
            have vt := t.rel i hE
            obtain ⟨cv, hcv, hvr⟩ : ∃ cv, (resOne a.tmps (.cell i ty)).run P w = .ok cv w ∧ VR ρ R v cv := by
              simp only [resOne]
              generalize evA tm (.t i) = X at vt hld
              generalize a.tmps.getD i Go.undef = Y at vt
              have hl2 := hld
              cases vt <;> simp only [loadAt] at hl2 <;> try (cases hl2; done)
              case ptr id off lo hR =>
                obtain ⟨cv, hcv, hvr⟩ := loadAt_ok iv hn (VR.ptr id off lo hR) hld
                refine ⟨cv, ?_, hvr⟩
                simp only [Instr.loadAt, Instr.sureAddr, Sem.run_bind, Sem.run_pure, Result.andThen_ok] at hcv
                simp only [asAddr, Sem.run_bind, Sem.run_pure, Result.andThen_ok]
                exact hcv
            exact ⟨_, by simp [List.mapM_cons, Sem.run_bind, hcv, hv], .cons _ _ _ _ hvr hr'⟩
theorem oneOrMore_ok {l : List AV} {vs : List Value} (h : VRs ρ R l vs) : VR ρ R (oneOrMore l) (if h : vs.length = 1 then vs[0] else .tuple vs.toArray) := by
  cases h with
  | nil => exact .tuple [] #[] .nil
  | cons a v l m h hs =>
    cases hs with
    | nil => simpa [oneOrMore] using h
    | cons b u l' m' h' hs' =>
      have : ¬ (v :: u :: m').length = 1 := by simp
      rw [dif_neg this]
      exact .tuple _ _ (by simpa using VRs.cons _ _ _ _ h (.cons _ _ _ _ h' hs'))
end
end Go.Ab

namespace Go.Ab
section
variable {P : Program} {ρ : Nat → Int} {R : Inj} {h : T AObj} {w : World} {E : T Unit} {N : Nat} {tm : T AV} {a : Act} {st st' : St}
theorem loop_put {L : Go.Loop} {l : Nat} (hb : w.heap[l]? = some (.loop L)) (L' : Go.Loop) : (setObj l (.loop L')).run P w = .ok () { w with heap := w.heap.setIfInBounds l (.loop L') } :=
  run_setObj hb (by intros; simp)
theorem run_getLoop {L : Go.Loop} {l : Nat} (hb : w.heap[l]? = some (.loop L)) : (Instr.getLoop l).run P w = .ok L w := by
  simp [Instr.getLoop, run_getObj' (P := P) hb (by intros; simp)]
theorem run_beginRound' {L : Go.Loop} {l : Nat} (hb : w.heap[l]? = some (.loop L)) (hs : L.state = .ready) : (Instr.beginRound l).run P w = .ok () { w with heap := w.heap.setIfInBounds l (.loop { L with state := .busy }) } := by
  simp [Instr.beginRound, run_getLoop (P := P) hb, loop_put hb, hs]
theorem run_endRound' {L : Go.Loop} {l : Nat} (hb : w.heap[l]? = some (.loop L)) (j : Option Code) :
    (Instr.endRound l j).run P w = .ok (.bool j.isNone) { w with heap := w.heap.setIfInBounds l (.loop { L with state := if j.isNone then .ready else .done, pending := j }) } := by
  simp [Instr.endRound, run_getLoop (P := P) hb, loop_put hb]
theorem run_endLoop' {L : Go.Loop} {l : Nat} (hb : w.heap[l]? = some (.loop L)) (hs : L.state ≠ .busy) : (Instr.endLoop l).run P w = .ok L.pending { w with heap := w.heap.setIfInBounds l (.loop { L with state := .exhausted }) } := by
  simp [Instr.endLoop, run_getLoop (P := P) hb, loop_put hb, hs]
theorem run_takeDeferred' {l : Nat} (hb : w.heap[l]? = some (.deferred (some []))) : (Instr.takeDeferred l).run P w = .ok [] { w with heap := w.heap.setIfInBounds l (.deferred none) } := by
  simp [Instr.takeDeferred, run_getObj' (P := P) hb (by intros; simp), run_setObj (P := P) (o' := .deferred none) hb (by intros; simp)]
theorem St.kill_heap (st : St) (id : Nat) : (st.kill id).heap = st.heap.del id := rfl
theorem St.kill_next (st : St) (id : Nat) : (st.kill id).next = st.next := rfl
theorem St.kill_low (st : St) (id : Nat) : (st.kill id).low = lowered st.low id := rfl
theorem St.kill_tr (st : St) (id : Nat) : (st.kill id).tr = st.tr := rfl
theorem dropMarks_tr : ∀ (mk : List Nat) (st st' : St), dropMarks mk st = some st' → st'.tr = st.tr ∧ st'.next = st.next := by
  intro mk
  induction mk with
  | nil => intro st st' h; simp only [dropMarks, Option.some.injEq] at h; subst h; exact ⟨rfl, rfl⟩
  | cons r l ih =>
    intro st st' h
    simp only [dropMarks] at h
    split at h
    · obtain ⟨h1, h2⟩ := ih _ _ h; exact ⟨h1, h2⟩
    · cases h
theorem drop_ok {F : Fence} {n : Nat} {fn : Func} {tmps : Array Value} {K : Ending → World → Prop} {n0 : Nat} : ∀ (mk : List Nat) (st st' : St), dropMarks mk st = some st' → ∀ (R : Inj) (w : World) (ds : List Deferred), Marks R mk ds → Inv P ρ R st.heap w →
    (∀ w', Step P ρ R st.heap w R st'.heap w' st'.low n0 n0 → ∃ v, (results fn tmps).run P w' = .ok v w' ∧ K (.returned v) w') → LeavesInM F n P fn tmps K ds .returning w := by
  intro mk
  induction mk with
  | nil =>
    intro st st' h R w ds m iv hk
    simp only [dropMarks, Option.some.injEq] at h; subst h
    cases m
    exact hk w (Step.refl iv _ _)
  | cons r l ih =>
    intro st st' h R w ds m iv hk
    simp only [dropMarks] at h
    split at h
    · rename_i ho
      cases m with
      | cons _ lo _ ds hr hs =>
        obtain ⟨x, hx, hor⟩ := iv.at ho hr
        cases hor
        refine ⟨by simp, .inl ⟨lo.b, _, rfl, run_takeDeferred' hx, ?_⟩⟩
        have s1 : Step P ρ R st.heap w R (st.kill r).heap { w with heap := w.heap.setIfInBounds lo.b (.deferred none) } (st.kill r).low n0 n0 := Step.free iv ho hr (lowered_le _ _).2
        refine ih _ _ h R _ ds hs s1.inv fun w' s2 => hk w' ?_
        exact s1.trans s2 (dropMarks_mono _ _ _ h).low (Nat.le_refl _) (Nat.le_refl _)
    · cases h
structure EnvOK (P : Program) (ρ : Nat → Int) (G : Env) : Prop where
  fn : ∀ f cf, G.fn.get f = some cf → ∃ (E : T Unit) (fn : Func), P.funcs[f]? = some fn ∧ fn.name ≠ "runtime.NumGoroutine" ∧ cFunc P E fn = some cf
  ovMono : ∀ f o args st v st', G.ov.get f = some o → o args st = .ok (v, st') → Mono st st'
  ov : ∀ f o args st v st', G.ov.get f = some o → o args st = .ok (v, st') → ∀ R w cargs, VRs ρ R args cargs.toList → Glob R → InvW P ρ R st w → Fresh R st.next st'.next → Conds ρ st'.tr →
    Upon P (fun cv w' => ∃ R', VR ρ R' v cv ∧ Step P ρ R st.heap w R' st'.heap w' st'.low st.next st'.next) ((callFunc f cargs).run P w)
  orders : P.follows .mixedOrders = true
theorem get_ofList_leaf (args : List AV) (i : Nat) : (T.leaf.ofList 0 args).get i = args[i]? := by
  rw [T.get_ofList]
  by_cases h : i < args.length
  · rw [dif_pos ⟨Nat.zero_le _, by omega⟩]; simp [h]
  · rw [dif_neg (by omega), T.get_leaf, List.getElem?_eq_none (by omega)]
theorem TR.start {args : List AV} {cargs : Array Value} (h : VRs ρ R args cargs.toList) {n : Nat} (hn : args.length ≤ n) :
    TR ρ R E n (T.leaf.ofList 0 args) (cargs ++ Array.replicate (n - cargs.size) Go.undef) := by
  have hs : cargs.size = args.length := by have := h.length; simpa using this.symm
  refine ⟨by simp; omega, fun t _ => ?_⟩
  simp only [evA, get_ofList_leaf]
  rw [Array.getD_eq_getD_getElem?, Array.getElem?_append]
  by_cases hlt : t < args.length
  · obtain ⟨v, hv, hr⟩ := h.get (i := t) (a := args[t]) (by simp [hlt])
    rw [if_pos (by omega)]
    have : cargs[t]? = some v := by simpa using hv
    rw [this, List.getElem?_eq_getElem hlt]; exact hr
  · rw [if_neg (by omega), List.getElem?_eq_none (by omega)]
    simp only [Array.getElem?_replicate]
    split <;> exact .any _ rfl
theorem callFn_run {G : Env} {rec : EvF} (OK : EnvOK P ρ G) (ES : EvSound P ρ rec) (hrec : EvMono rec) {f : Nat} {args : List AV} {v : AV} (h : callFn G rec f args st = .ok (v, st')) {R : Inj} {w : World} {cargs : Array Value}
    (ha : VRs ρ R args cargs.toList) (gl : Glob R) (iv : InvW P ρ R st w) (hf : Fresh R st.next st'.next) (hcd : Conds ρ st'.tr) :
    Upon P (fun cv w' => ∃ R', VR ρ R' v cv ∧ Step P ρ R st.heap w R' st'.heap w' st'.low st.next st'.next) ((callFunc f cargs).run P w) := by
  unfold callFn at h
  split at h
  · rename_i o ho; exact OK.ov f o args st v st' ho h R w cargs ha gl iv hf hcd
  · split at h
    · cases h
    · rename_i cf hcf
      obtain ⟨E, fn, hfn, hname, hcf⟩ := OK.fn f cf hcf
      simp only [callBody] at h
      split at h
      · rename_i hble
        have hlen : args.length ≤ cf.ntmps := by have := Nat.le_of_ble_eq_true hble; rwa [lenL_eq] at this
        rw [T.ofListK_eq] at h
        unfold cFunc at hcf
        obtain ⟨body, hbody, hcf⟩ := bind_some hcf
        obtain ⟨cr, hcr, hcf⟩ := bind_some hcf
        split at hcf
        · simp only [Option.some.injEq] at hcf; subst hcf
          simp only at h hlen
          have hrun : (callFunc f cargs).run P w = .ok (.enter f cargs) w := by
            simp [callFunc, Sem.run, program, hfn, hname, hbody]
          rw [hrun]
          simp only [Upon]
          refine callsIn_of_wp_marks hfn hbody trivial ?_
          unfold endCall at h
          split at h
          · cases h
          · rename_i e tm1 mk1 st1 hev
            have tr0 : TR ρ R E fn.ntmps (T.leaf.ofList 0 args) (cargs ++ Array.replicate (fn.ntmps - cargs.size) Go.undef) := TR.start ha hlen
            split at h
            · cases h
            · rename_i hne
              split at h
              · cases h
              · rename_i st2 hd
                split at h
                · rename_i l hl
                  simp only [Except.ok.injEq, Prod.mk.injEq] at h
                  obtain ⟨rfl, rfl⟩ := h
                  have hd2 := dropMarks_tr _ _ _ hd
                  have hd3 := dropMarks_mono _ _ _ hd
                  have hm1 := hrec _ _ _ _ _ _ _ _ _ hev
                  refine ES E fn.ntmps none body _ [] st e tm1 mk1 st1 hev R _ w tr0 .nil gl iv (by rw [← hd2.2]; exact hf) (by rw [← hd2.1]; exact hcd) _ fun a' w' R' t' m' s' => ?_
                  have out : LeavesInM (fenceOf none) 0 P fn a'.tmps (fun e w' => ∃ v_1, e = Ending.returned v_1 ∧ ∃ R', VR ρ R' (oneOrMore l) v_1 ∧ Step P ρ R st.heap w R' st2.heap w' st2.low st.next st2.next) a'.defers .returning w' := by
                    refine drop_ok (n0 := st1.next) mk1 st1 st2 hd R' w' a'.defers m' s'.inv fun w'' s'' => ?_
                    obtain ⟨vs, hvs, hr⟩ := results_ok t' s''.inv hcr hl
                    refine ⟨_, results_eq fn a'.tmps hvs, _, rfl, R', oneOrMore_ok hr, ?_⟩
                    rw [hd2.2]
                    exact s'.trans s'' hd3.low hm1.next (Nat.le_refl _)
                  cases e with
                  | normal => exact out
                  | ret => exact out
                  | exit i => exact absurd rfl (hne i)
                · cases h
        · cases hcf
      · cases h
end
end Go.Ab

namespace Go.Ab
section
variable {P : Program} {ρ : Nat → Int} {R : Inj} {h : T AObj} {w : World} {E : T Unit} {N : Nat} {tm : T AV} {a : Act} {st st' : St}
theorem setAll_ok : ∀ {ps : List Nat} {args : List AV} {tm tm' : T AV} {vs : List Value} {tmps : Array Value}, setAll tm ps args = some tm' → VRs ρ R args vs → TR ρ R E N tm tmps → (∀ p ∈ ps, p < N ∧ E.get p = none) →
    vs.length = ps.length ∧ TR ρ R E N tm' ((ps.zip vs).foldl (fun tmps (t, a) => tmps.setIfInBounds t a) tmps) := by
  intro ps
  induction ps with
  | nil =>
    intro args tm tm' vs tmps h hv t _
    cases args with
    | nil => simp only [setAll, Option.some.injEq] at h; subst h; cases hv; exact ⟨rfl, t⟩
    | cons => simp only [setAll] at h; cases h
  | cons p ps ih =>
    intro args tm tm' vs tmps h hv t hp
    cases args with
    | nil => simp only [setAll] at h; cases h
    | cons x args =>
      simp only [setAll] at h
      cases hv with
      | cons _ v _ vs hx hxs =>
        have t1 : TR ρ R E N (tm.set p x) (tmps.setIfInBounds p v) := TR.set (a := ⟨tmps, []⟩) t (hp p (by simp)).1 hx
        obtain ⟨h1, h2⟩ := ih h hxs t1 (fun q hq => hp q (by simp [hq]))
        exact ⟨by simp [h1], by simpa using h2⟩
theorem LoopR.code' {lp : Loop} {L : Go.Loop} (r : LoopR P ρ R lp L) : ∃ (E : T Unit) (n : Nat), TR ρ R E n lp.tm L.tmps ∧ cCode P E n L.assign = lp.assign ∧ cCode P E n L.body = lp.body ∧ ∀ p ∈ lp.params, p < n ∧ E.get p = none := r.code
theorem loop_at (i : Inv P ρ R h w) {l : Nat} {lp : Loop} {lo : Loc} (ho : h.get l = some (.loop lp)) (hr : R l = some lo) : ∃ L, w.heap[lo.b]? = some (.loop L) ∧ LoopR P ρ R lp L := by
  obtain ⟨x, hx, r⟩ := i.at ho hr
  cases r with | loop _ _ L r => exact ⟨L, hx, r⟩
theorem or_false_split {a b : Bool} (h : (a || b) = false) : a = false ∧ b = false := by cases a <;> cases b <;> simp_all
theorem St.put_heap (st : St) (id : Nat) (o : AObj) : (st.put id o).heap = st.heap.set id o := rfl
theorem St.put_next (st : St) (id : Nat) (o : AObj) : (st.put id o).next = st.next := rfl
theorem St.put_low (st : St) (id : Nat) (o : AObj) : (st.put id o).low = lowered st.low id := rfl
theorem St.put_tr (st : St) (id : Nat) (o : AObj) : (st.put id o).tr = st.tr := rfl
theorem callRound_run {rec : EvF} (ES : EvSound P ρ rec) (hrec : EvMono rec) {l : Nat} {args : List AV} {v : AV} (h : callRound rec l args st = .ok (v, st')) {R : Inj} {w : World} {cargs : Array Value} {lo : Loc} (hR : R l = some lo)
    (ha : VRs ρ R args cargs.toList) (gl : Glob R) (iv : InvW P ρ R st w) (hf : Fresh R st.next st'.next) (hcd : Conds ρ st'.tr) :
    Upon P (fun cv w' => ∃ R', VR ρ R' v cv ∧ Step P ρ R st.heap w R' st'.heap w' st'.low st.next st'.next) ((Instr.yield lo.b cargs).run P w) := by
  unfold callRound at h
  split at h
  rotate_left
  · cases h
  rename_i lp hlp
  split at h
  rotate_left
  · cases h
  rename_i tm1 hbo hset
  split at h
  rotate_left
  · cases h
  · cases h
  rename_i tm2 st2 hev1
  split at h
  rotate_left
  · cases h
  rename_i lp1 hlp1
  split at h
  rotate_left
  · cases h
  rename_i hbo1
  split at h
  rotate_left
  · cases h
  · cases h
  rename_i e tm4 st4 hev2
  split at h
  rotate_left
  · cases h
  rename_i lp2 hlp2
  obtain ⟨L, hL, LR⟩ := loop_at iv.inv hlp hR
  obtain ⟨E, N, trL, hca, hcb, hps⟩ := LR.code
  obtain ⟨hb0, ho0⟩ := or_false_split hbo
  obtain ⟨hb1, ho1⟩ := or_false_split hbo1
  obtain ⟨hlen, t1⟩ := setAll_ok hset ha trL hps
  have m1 := hrec _ _ _ _ _ _ _ _ _ hev1
  have m2 := hrec _ _ _ _ _ _ _ _ _ hev2
  have mst : st'.next = st4.next ∧ st'.tr = st4.tr ∧ st'.low = lowered st4.low l := by
    split at h <;> simp only [Except.ok.injEq, Prod.mk.injEq] at h <;> obtain ⟨_, rfl⟩ := h <;> exact ⟨rfl, rfl, rfl⟩
  have hparams : L.params.size = lp.params.length := by rw [LR.params]; simp
  have hcs : cargs.size = L.params.size := by rw [hparams, ← hlen]; simp
  have hy : (Instr.yield lo.b cargs).run P w = .ok (.round lo.b L.fn ((lp.params.zip cargs.toList).foldl (fun tmps (t, a) => tmps.setIfInBounds t a) L.tmps) L.assign L.body) w := by
    simp only [Instr.yield, Sem.run_bind, run_getLoop (P := P) hL, Result.andThen_ok, hcs, ne_eq, not_true, if_false, Sem.run_pure]
    rw [LR.params, ← Array.foldl_toList]
    simp
  rw [hy]
  simp only [Upon]
  refine roundIn_of_wpIn trivial ?_
  have hcd4 : Conds ρ st4.tr := by rw [← mst.2.1]; exact hcd
  have hcd2 : Conds ρ st2.tr := m2.conds hcd4
  have n12 : st.next ≤ st2.next := m1.next
  have n24 : st2.next ≤ st4.next := m2.next
  have hev1' : rec (some lo.b).isSome (cCode P E N L.assign) tm1 [] st = .ok .normal tm2 [] st2 := by rw [hca]; exact hev1
  refine ES E N (some lo.b) L.assign tm1 [] st .normal tm2 [] st2 hev1' R { tmps := _, defers := [] } w t1 .nil gl iv (hf.sub (Nat.le_refl _) (by omega)) hcd2 _ fun a1 w1 R1 tr1 mk1 s1 => ?_
  have fr1 : Fresh R st.next st2.next := hf.sub (Nat.le_refl _) (by omega)
  have e1 : Ext R R1 := s1.mono fr1
  obtain ⟨L1, hL1, LR1⟩ := loop_at s1.inv hlp1 (e1 _ _ hR)
  refine ⟨_, run_beginRound' hL1 (by rw [LR1.state, hb1, ho1]), ?_⟩
  have LRb : LoopR P ρ R1 { lp1 with busy := true } { L1 with state := .busy } := ⟨rfl, LR1.pending, LR1.params, LR1.code, LR1.some'⟩
  have s2 : Step P ρ R1 st2.heap w1 R1 (st2.put l (.loop { lp1 with busy := true })).heap { w1 with heap := w1.heap.setIfInBounds lo.b (.loop { L1 with state := .busy }) } (lowered st2.low l) st2.next st2.next :=
    Step.write s1.inv hlp1 (e1 _ _ hR) (.loop _ _ _ LRb) (lowered_le _ _).2
  have hev2' : rec (some lo.b).isSome (cCode P E N L.body) tm2 [] (st2.put l (.loop { lp1 with busy := true })) = .ok e tm4 [] st4 := by rw [hcb]; exact hev2
  have fr2 : Fresh R1 st2.next st4.next := s1.fresh (n2 := st4.next) (hf.sub (Nat.le_refl _) (by omega)) n24 n12
  refine ES E N (some lo.b) L.body tm2 [] _ e tm4 [] st4 hev2' R1 a1 _ tr1 mk1 (gl.mono e1) (s2.toW (s1.toW iv m1.next) (Nat.le_refl _)) fr2 hcd4 _ fun a4 w4 R4 tr4 mk4 s4 => ?_
  have e4 : Ext R1 R4 := s4.mono fr2
  have hR4 : R4 l = some lo := e4 _ _ (e1 _ _ hR)
  obtain ⟨L4, hL4, LR4⟩ := loop_at s4.inv hlp2 hR4
  have low2 : st4.low ≤ lowered st2.low l := m2.low
  have chain : ∀ (lp' : Loop) (L' : Go.Loop), LoopR P ρ R4 lp' L' → Step P ρ R st.heap w R4 (st4.heap.set l (.loop lp')) { w4 with heap := w4.heap.setIfInBounds lo.b (.loop L') } (lowered st4.low l) st.next st4.next := by
    intro lp' L' r
    have s5 : Step P ρ R4 st4.heap w4 R4 (st4.heap.set l (.loop lp')) { w4 with heap := w4.heap.setIfInBounds lo.b (.loop L') } (lowered st4.low l) st4.next st4.next :=
      Step.write s4.inv hlp2 hR4 (.loop _ _ _ r) (lowered_le _ _).2
    have s12 := s1.trans s2 (lowered_le _ _).1 n12 (Nat.le_refl _)
    have s124 := s12.trans s4 low2 n12 n24
    exact s124.trans s5 (lowered_le _ _).1 (by omega) (Nat.le_refl _)
  cases e with
  | normal =>
    simp only [Except.ok.injEq, Prod.mk.injEq] at h
    obtain ⟨rfl, rfl⟩ := h
    exact ⟨_, _, run_endRound' hL4 none, _, rfl, R4, .bool true, chain _ _ ⟨rfl, rfl, LR4.params, LR4.code, by simp⟩⟩
  | exit i =>
    simp only [Except.ok.injEq, Prod.mk.injEq] at h
    obtain ⟨rfl, rfl⟩ := h
    exact ⟨_, _, run_endRound' hL4 (some (.exit i)), _, rfl, R4, .bool false, chain _ _ ⟨rfl, rfl, LR4.params, LR4.code, by simp⟩⟩
  | ret =>
    simp only [Except.ok.injEq, Prod.mk.injEq] at h
    obtain ⟨rfl, rfl⟩ := h
    exact ⟨_, _, run_endRound' hL4 (some .ret), _, rfl, R4, .bool false, chain _ _ ⟨rfl, rfl, LR4.params, LR4.code, by simp⟩⟩
end
end Go.Ab

namespace Go.Ab
def DrawOK (P : Program) (ρ : Nat → Int) (call : CallV) : Prop :=
  ∀ (E : T Unit) (N : Nat) (F : Fence), Wide F → ∀ (id : Nat) (ops : Array Oper) (tm tm' : T AV) (st st' : St), (drawOk ops (Region.before ops).toList (cDrawOpers P E ops ops.toList (Region.before ops).toList) && dstsOk E N ops) = true →
    evDrawAll call (cDrawOpers P E ops ops.toList (Region.before ops).toList) tm st = .ok (tm', st') →
    ∀ (R : Inj) (a : Act) (w : World), TR ρ R E N tm a.tmps → Glob R → InvW P ρ R st w → Fresh R st.next st'.next → Conds ρ st'.tr →
      ∀ (Q : Exit → Act → World → Prop), (∀ a' w' R', TR ρ R' E N tm' a'.tmps → a'.defers = a.defers → Step P ρ R st.heap w R' st'.heap w' st'.low st.next st'.next → Q .normal a' w') →
      (Code.region id ops true).wpIn F 0 P Q a w
section
variable {P : Program} {ρ : Nat → Int} {G : Env} {rec : EvF}
theorem callAny_sound (OK : EnvOK P ρ G) (ES : EvSound P ρ rec) (hrec : EvMono rec) : CallSound P ρ (callAny G rec) := by
  refine ⟨callAny_mono hrec OK.ovMono, fun fn args st v st' h R w cfn cargs hfn ha gl iv hf hcd => ?_⟩
  cases hfn with
  | func f => exact callFn_run OK ES hrec h ha gl iv hf hcd
  | yield id l hR => exact callRound_run ES hrec h hR ha gl iv hf hcd
theorem Marks.same {R : Inj} {mk : List Nat} {a a' : Act} (e : a'.defers = a.defers) (h : Marks R mk a.defers) : Marks R mk a'.defers := by rw [e]; exact h
def Good (P : Program) (ρ : Nat → Int) (E : T Unit) (N : Nat) (ro : Option Nat) (c : Code) (res : T AV → List Nat → St → Res) : Prop :=
  ∀ tm mk st e tm' mk' st', res tm mk st = .ok e tm' mk' st' →
    ∀ (R : Inj) (a : Act) (w : World), TR ρ R E N tm a.tmps → Marks R mk a.defers → Glob R → InvW P ρ R st w → Fresh R st.next st'.next → Conds ρ st'.tr →
      ∀ (Q : Exit → Act → World → Prop), (∀ a' w' R', TR ρ R' E N tm' a'.tmps → Marks R' mk' a'.defers → Step P ρ R st.heap w R' st'.heap w' st'.low st.next st'.next → Q (exOf e) a' w') →
      c.wpIn (fenceOf ro) 0 P Q a w
variable {E : T Unit} {N : Nat} {ro : Option Nat}
theorem Good.seq {x y : Code} {fx fy : T AV → List Nat → St → Res} (hx : Good P ρ E N ro x fx) (hy : Good P ρ E N ro y fy)
    (mx : ∀ tm mk st, ResMono st (fx tm mk st)) (my : ∀ tm mk st, ResMono st (fy tm mk st)) : Good P ρ E N ro (.seq x y) (fun tm mk st => thenK fy (fx tm mk st)) := by
  intro tm mk st e tm' mk' st' h R a w t m gl iv hf hcd Q hQ
  simp only [thenK] at h
  split at h
  rotate_left
  · cases h
  rename_i e1 tm1 mk1 st1 h1
  have m1 := mx _ _ _ _ _ _ _ h1
  refine wpIn_seq ?_
  split at h
  · have m2 := my _ _ _ _ _ _ _ h
    refine hx _ _ _ _ _ _ _ h1 R a w t m gl iv (hf.sub (Nat.le_refl _) m2.next) (m2.conds hcd) _ fun a1 w1 R1 t1 mk1 s1 => ?_
    have fr1 : Fresh R st.next st1.next := hf.sub (Nat.le_refl _) m2.next
    refine hy _ _ _ _ _ _ _ h R1 a1 w1 t1 mk1 (gl.mono (s1.mono fr1)) (s1.toW iv m1.next) (s1.fresh hf m2.next m1.next) hcd Q fun a2 w2 R2 t2 mk2 s2 => hQ _ _ _ t2 mk2 (s1.trans s2 m2.low m1.next m2.next)
  · rename_i hne
    simp only [Res.ok.injEq] at h
    obtain ⟨rfl, rfl, rfl, rfl⟩ := h
    refine hx _ _ _ _ _ _ _ h1 R a w t m gl iv hf hcd _ fun a1 w1 R1 t1 mk1 s1 => ?_
    have := hQ a1 w1 R1 t1 mk1 s1
    cases e1 with
    | normal => exact absurd rfl hne
    | exit i => exact this
    | ret => exact this
theorem evStep_eq (c : CCode) (rnd : Bool) (tm : T AV) (mk : List Nat) (st : St) : evStep G rec rnd c tm mk st = evCode c G rec rnd tm mk st := rfl
theorem evStep_cRegion (l : List COper) (rnd : Bool) (tm : T AV) (mk : List Nat) (st : St) : evStep G rec rnd (cRegion l) tm mk st = endOps mk (evOps (callAny G rec) l tm st) := by
  cases l with
  | nil => rfl
  | cons o l => rfl
theorem ev_sound (OK : EnvOK P ρ G) (hd : ∀ call, CallSound P ρ call → DrawOK P ρ call) : ∀ n, EvSound P ρ (ev G n) ∧ EvMono (ev G n) := by
  intro n
  induction n using Nat.strongRecOn with
  | _ n ih =>
  cases n with
  | zero => exact ⟨fun _ _ _ _ _ _ _ _ _ _ _ h => (by cases h), fun _ _ _ _ _ _ _ _ _ h => (by cases h)⟩
  | succ n =>
  have ES := (ih n (by omega)).1
  have hrec := (ih n (by omega)).2
  have eq : ev G (n + 1) = evStep G (ev G n) := rfl
  rw [eq]
  have hmono : EvMono (evStep G (ev G n)) := evStep_mono hrec OK.ovMono
  refine ⟨?_, hmono⟩
  have CS : CallSound P ρ (callAny G (ev G n)) := callAny_sound OK ES hrec
  have gm : ∀ (ro : Option Nat) c tm mk st, ResMono st (evStep G (ev G n) ro.isSome c tm mk st) := fun ro c tm mk st e tm' mk' st' h => hmono _ _ _ _ _ _ _ _ _ h
  have rm : ∀ (ro : Option Nat) c tm mk st, ResMono st (ev G n ro.isSome c tm mk st) := fun ro c tm mk st e tm' mk' st' h => hrec _ _ _ _ _ _ _ _ _ h
  have gr : ∀ (E : T Unit) (N : Nat) (ro : Option Nat) (c : Code), Good P ρ E N ro c (ev G n ro.isSome (cCode P E N c)) := fun E N ro c tm mk st e tm' mk' st' h => ES E N ro c tm mk st e tm' mk' st' h
  suffices H : ∀ (E : T Unit) (N : Nat) (ro : Option Nat) (c : Code), Good P ρ E N ro c (evStep G (ev G n) ro.isSome (cCode P E N c)) from fun E N ro c tm mk st e tm' mk' st' h => H E N ro c tm mk st e tm' mk' st' h
  intro E N ro c
  induction c with
  | skip =>
    intro tm mk st e tm' mk' st' h R a w t m gl iv hf hcd Q hQ
    simp only [cCode, evStep_eq, evCode, cdSkip, Res.ok.injEq] at h
    obtain ⟨rfl, rfl, rfl, rfl⟩ := h
    exact wpIn_skip (hQ a w R t m (Step.refl iv.inv _ _))
  | ret =>
    intro tm mk st e tm' mk' st' h R a w t m gl iv hf hcd Q hQ
    simp only [cCode, evStep_eq, evCode, cdRet, Res.ok.injEq] at h
    obtain ⟨rfl, rfl, rfl, rfl⟩ := h
    exact wpIn_ret (hQ a w R t m (Step.refl iv.inv _ _))
  | exit i =>
    intro tm mk st e tm' mk' st' h R a w t m gl iv hf hcd Q hQ
    simp only [cCode, evStep_eq, evCode, cdExit, Res.ok.injEq] at h
    obtain ⟨rfl, rfl, rfl, rfl⟩ := h
    exact wpIn_exit (hQ a w R t m (Step.refl iv.inv _ _))
  | region id ops draw =>
    intro tm mk st e tm' mk' st' h R a w t m gl iv hf hcd Q hQ
    cases draw with
    | false =>
      simp only [cCode, evStep_cRegion] at h
      unfold endOps at h
      split at h
      rotate_left
      · cases h
      rename_i tm1 st1 h1
      simp only [Res.ok.injEq] at h
      obtain ⟨rfl, rfl, rfl, rfl⟩ := h
      refine wpIn_region ?_
      have := (ops_wp (fenceOf_wide ro) (n := 0) CS (ops := ops) ops.toList 0 [] tm st (by simp) h1).2 R a w t (fun _ h => by cases h) gl iv hf hcd Q fun a' w' R' t' d' s' => hQ a' w' R' t' (Marks.same d' (m.mono (s'.mono hf))) s'
      rw [List.range_eq_range']
      simpa using this
    | true =>
      simp only [cCode] at h
      split at h
      · rename_i hok
        simp only [evStep_eq, evCode, cdDraw, endOps] at h
        split at h
        rotate_left
        · cases h
        rename_i tm1 st1 h1
        simp only [Res.ok.injEq] at h
        obtain ⟨rfl, rfl, rfl, rfl⟩ := h
        exact hd _ CS E N (fenceOf ro) (fenceOf_wide ro) id ops tm _ st _ hok h1 R a w t gl iv hf hcd Q fun a' w' R' t' d' s' => hQ a' w' R' t' (Marks.same d' (m.mono (s'.mono hf))) s'
      · cases h
  | seq x y ihx ihy =>
    intro tm mk st e tm' mk' st' h
    have key : ∃ fx fy, Good P ρ E N ro x fx ∧ Good P ρ E N ro y fy ∧ (∀ tm mk st, ResMono st (fx tm mk st)) ∧ (∀ tm mk st, ResMono st (fy tm mk st)) ∧
        evStep G (ev G n) ro.isSome (cSeq (cCode P E N x) (cCode P E N y)) tm mk st = thenK fy (fx tm mk st) := by
      unfold cSeq
      split
      · rename_i hx
        rw [hx] at ihx
        exact ⟨_, _, ihx, ihy, gm ro _, gm ro _, rfl⟩
      · split
        · rename_i hy
          rw [hy] at ihy
          refine ⟨_, _, ihx, ihy, gm ro _, gm ro _, ?_⟩
          generalize evStep G (ev G n) ro.isSome (cCode P E N x) tm mk st = r
          cases r with
          | bad => rfl
          | ok e tm mk st => cases e <;> rfl
        · exact ⟨_, _, gr E N ro x, gr E N ro y, rm ro _, rm ro _, rfl⟩
    obtain ⟨fx, fy, gx, gy, mx, my, he⟩ := key
    simp only [cCode] at h
    rw [he] at h
    exact Good.seq gx gy mx my tm mk st e tm' mk' st' h
  | cond c x y ihx ihy =>
    intro tm mk st e tm' mk' st' h R a w t m gl iv hf hcd Q hQ
    simp only [cCode] at h
    split at h
    rotate_left
    · cases h
    rename_i cc hc
    simp only [evStep_eq, evCode, cdCond, evAK_eq] at h
    have C : Ctx ρ R E [] N tm a := ⟨t, fun _ _ _ hf => (by cases hf), gl⟩
    have vc := C.opnd hc
    generalize evA tm cc = X at vc h
    generalize hq : a.eval c = cv at vc
    cases vc <;> (try simp only [decR] at h) <;> try (cases h; done)
    case bool b =>
      refine wpIn_cond hq ?_
      cases b with
      | true => exact gr E N ro x tm mk st e tm' mk' st' h R a w t m gl iv hf hcd Q hQ
      | false => exact gr E N ro y tm mk st e tm' mk' st' h R a w t m gl iv hf hcd Q hQ
    case sbool s b hs =>
      obtain ⟨hp, nx, lo, sc, tr⟩ := st
      cases sc with
      | nil => simp only at h; cases h
      | cons d sc =>
        simp only at h
        have hm : Conds ρ ((s, d) :: tr) := by
          cases d
          · exact (rm ro _ _ _ _ _ _ _ _ h).conds hcd
          · exact (rm ro _ _ _ _ _ _ _ _ h).conds hcd
        have hbd : b = d := by have := hm (s, d) (by simp); simp only [hs] at this; exact this
        subst hbd
        refine wpIn_cond hq ?_
        cases b with
        | true => exact gr E N ro x tm mk _ e tm' mk' st' h R a w t m gl ⟨iv.inv, iv.wf⟩ hf hcd Q hQ
        | false => exact gr E N ro y tm mk _ e tm' mk' st' h R a w t m gl ⟨iv.inv, iv.wf⟩ hf hcd Q hQ
  | block i x ihx =>
    intro tm mk st e tm' mk' st' h R a w t m gl iv hf hcd Q hQ
    simp only [cCode, evStep_eq, evCode, cdBlock, endBlock] at h
    refine wpIn_block ?_
    split at h
    rotate_left
    · cases h
    rename_i e1 tm1 mk1 st1 h1
    split at h
    · rename_i j
      split at h
      · rename_i hb
        simp only [Res.ok.injEq] at h
        obtain ⟨rfl, rfl, rfl, rfl⟩ := h
        have hji := beq_true hb
        subst hji
        exact gr E N ro x tm mk st _ _ _ _ h1 R a w t m gl iv hf hcd _ fun a' w' R' t' m' s' => by
          simp only [exOf, Exit.inBlock, if_true]; exact hQ a' w' R' t' m' s'
      · rename_i hb
        simp only [Res.ok.injEq] at h
        obtain ⟨rfl, rfl, rfl, rfl⟩ := h
        have hji : ¬ j = i := fun c => by rw [c, show Nat.beq i i = true from Nat.beq_refl i] at hb; cases hb
        exact gr E N ro x tm mk st _ _ _ _ h1 R a w t m gl iv hf hcd _ fun a' w' R' t' m' s' => by
          simp only [exOf, Exit.inBlock, if_neg hji]; exact hQ a' w' R' t' m' s'
    · rename_i hne
      simp only [Res.ok.injEq] at h
      obtain ⟨rfl, rfl, rfl, rfl⟩ := h
      exact gr E N ro x tm mk st _ _ _ _ h1 R a w t m gl iv hf hcd _ fun a' w' R' t' m' s' => by
        have := hQ a' w' R' t' m' s'
        cases e1 with
        | normal => exact this
        | exit j => exact absurd rfl (hne j)
        | ret => exact this
  | loop b ihb =>
    intro tm mk st e tm' mk' st' h R a w t m gl iv hf hcd Q hQ
    let J : Nat → Act → World → Prop := fun k a w => k ≤ n + 1 ∧ ∃ tm mk st R, ev G k ro.isSome (.loop (cCode P E N b)) tm mk st = .ok e tm' mk' st' ∧ TR ρ R E N tm a.tmps ∧ Marks R mk a.defers ∧ Glob R ∧ InvW P ρ R st w ∧ Fresh R st.next st'.next ∧
      ∀ a' w' R', TR ρ R' E N tm' a'.tmps → Marks R' mk' a'.defers → Step P ρ R st.heap w R' st'.heap w' st'.low st.next st'.next → Q (exOf e) a' w'
    refine wpIn_loop_n J (fun k a w hJ => ?_) (m := n + 1) ⟨Nat.le_refl _, tm, mk, st, R, h, t, m, gl, iv, hf, hQ⟩
    obtain ⟨hk, tm, mk, st, R, h, t, m, gl, iv, hf, hQ⟩ := hJ
    cases k with
    | zero => cases h
    | succ k =>
      have h : thenK (ev G k ro.isSome (.loop (cCode P E N b))) (ev G k ro.isSome (cCode P E N b) tm mk st) = .ok e tm' mk' st' := h
      have ESk := (ih k (by omega)).1
      have hk' := (ih k (by omega)).2
      simp only [thenK] at h
      split at h
      rotate_left
      · cases h
      rename_i e1 tm1 mk1 st1 h1
      have m1 := hk' _ _ _ _ _ _ _ _ _ h1
      split at h
      · have m2 := hk' _ _ _ _ _ _ _ _ _ h
        refine ESk E N ro b _ _ _ _ _ _ _ h1 R a w t m gl iv (hf.sub (Nat.le_refl _) m2.next) (m2.conds hcd) _ fun a1 w1 R1 t1 mk1 s1 => ?_
        have fr1 : Fresh R st.next st1.next := hf.sub (Nat.le_refl _) m2.next
        exact ⟨k, by omega, by omega, tm1, _, st1, R1, h, t1, mk1, gl.mono (s1.mono fr1), s1.toW iv m1.next, s1.fresh hf m2.next m1.next, fun a2 w2 R2 t2 mk2 s2 => hQ _ _ _ t2 mk2 (s1.trans s2 m2.low m1.next m2.next)⟩
      · rename_i hne
        simp only [Res.ok.injEq] at h
        obtain ⟨rfl, rfl, rfl, rfl⟩ := h
        refine ESk E N ro b _ _ _ _ _ _ _ h1 R a w t m gl iv hf hcd _ fun a1 w1 R1 t1 mk1 s1 => ?_
        have := hQ a1 w1 R1 t1 mk1 s1
        cases e1 with
        | normal => exact absurd rfl hne
        | exit i => exact this
        | ret => exact this
  | rangeFunc g ps x y ihx ihy =>
    intro tm mk st e tm' mk' st' h R a w t m gl iv hf hcd Q hQ
    simp only [cCode] at h
    split at h
    rotate_left
    · cases h
    rename_i _b cg hg hall
    simp only [evStep_eq, evCode, cdRange, evAK_eq] at h
    split at h
    · cases h
    rename_i hrnd
    have hro : ro = none := by cases ro with | none => rfl | some l => cases hrnd
    subst hro
    have C : Ctx ρ R E [] N tm a := ⟨t, fun _ _ _ hf => (by cases hf), gl⟩
    have vg := C.opnd hg
    generalize evA tm cg = X at vg h
    generalize hq : a.eval g = cv at vg
    split at h
    rotate_left
    · cases h
    rename_i f first captured
    split at h
    rotate_left
    · cases h
    rename_i cf hcf
    simp only [St.newK_eq] at h
    cases vg with
    | func _ _ _ fs cs h1 h2 =>
    unfold endRange at h
    split at h
    rotate_left
    · cases h
    rename_i v3 st3 hcall
    split at h
    rotate_left
    · cases h
    rename_i lp hlp
    split at h
    rotate_left
    · cases h
    rename_i hbusy
    simp only [Res.ok.injEq] at h
    obtain ⟨he, rfl, rfl, rfl⟩ := h
    have mc := callFn_mono hrec OK.ovMono hcall
    have hn3 : st.next + 1 + 1 ≤ st3.next := mc.next
    have hfr : Fresh R st.next st3.next := hf
    have hlow3 : st3.low ≤ st.low := mc.low
    let r0 : Loc := ⟨w.heap.size, 0, 0⟩
    let l0 : Loc := ⟨w.heap.size + 1, 0, 0⟩
    let lpa : Loop := { busy := false, over := false, pending := none, tm, params := ps.toList, assign := cCode P E N x, body := cCode P E N y }
    have hR0 : R st.next = none := hfr _ (Nat.le_refl _) (by omega)
    have s1 : Step P ρ R st.heap w (R.upd st.next r0) (st.heap.set st.next .defr) { w with heap := w.heap.push (.deferred (some [])) } st.low st.next (st.next + 1) :=
      Step.alloc iv.inv hR0 (l := r0) rfl (.defr r0) _
    have hR1 : R.upd st.next r0 (st.next + 1) = none := by rw [Inj.upd_ne _ _ (by omega)]; exact hfr _ (by omega) (by omega)
    have ex1 : Ext R (R.upd st.next r0) := Inj.upd_ext hR0 r0
    have ex2 : Ext (R.upd st.next r0) ((R.upd st.next r0).upd (st.next + 1) l0) := Inj.upd_ext hR1 l0
    have hps' : ∀ p ∈ ps.toList, p < N ∧ E.get p = none := by
      intro p hp
      have := List.all_eq_true.1 hall p hp
      simp only [Bool.and_eq_true] at this
      exact ⟨blt_true this.1, by simpa using this.2⟩
    have LRs : ∀ fn, LoopR P ρ ((R.upd st.next r0).upd (st.next + 1) l0) lpa { state := .ready, pending := none, fn, tmps := a.tmps, params := ps, assign := x, body := y, defers := w.heap.size } := fun fn =>
      ⟨rfl, rfl, by simp [lpa], ⟨E, N, (t.mono ex1).mono ex2, rfl, rfl, hps'⟩, by simp [lpa]⟩
    refine wpIn_rangeFunc fun fn _ => ?_
    let L : Go.Loop := { state := .ready, pending := none, fn, tmps := a.tmps, params := ps, assign := x, body := y, defers := w.heap.size }
    let w1 : World := { w with heap := (w.heap.push (.deferred (some []))).push (.loop L) }
    have s2 : Step P ρ (R.upd st.next r0) (st.heap.set st.next .defr) { w with heap := w.heap.push (.deferred (some [])) } ((R.upd st.next r0).upd (st.next + 1) l0) ((st.heap.set st.next .defr).set (st.next + 1) (.loop lpa)) w1 st.low (st.next + 1) (st.next + 1 + 1) :=
      Step.alloc s1.inv hR1 (l := l0) (by simp [l0]) (.loop _ _ _ (LRs fn)) _
    have s12 := s1.trans s2 (Nat.le_refl _) (by omega) (by omega)
    obtain ⟨E', fn', hfn', hname', hcf'⟩ := OK.fn f cf hcf
    unfold cFunc at hcf'
    obtain ⟨bd, hbd, _⟩ := bind_some hcf'
    let cargs : Array Value := (fs ++ #[.func (.yield (w.heap.size + 1)) #[] #[]]) ++ cs
    have hrun : ∀ w', (callFunc f cargs).run P w' = .ok (.enter f cargs) w' := fun w' => by
      simp [callFunc, Sem.run, program, hfn', hname', hbd]
    have vargs : VRs ρ ((R.upd st.next r0).upd (st.next + 1) l0) (first ++ (.func (.yield (st.next + 1)) [] [] :: captured)) cargs.toList := by
      have hy : VR ρ ((R.upd st.next r0).upd (st.next + 1) l0) (.func (.yield (st.next + 1)) [] []) (.func (.yield (w.heap.size + 1)) #[] #[]) := .yield _ l0 (Inj.upd_eq _ _ _)
      have := VRs.append ((h1.mono ex1).mono ex2) (VRs.append (.cons _ _ _ _ hy .nil) ((h2.mono ex1).mono ex2))
      simpa [cargs] using this
    have fr3 : Fresh ((R.upd st.next r0).upd (st.next + 1) l0) (st.next + 1 + 1) st3.next := s12.fresh (n2 := st3.next) hfr hn3 (by omega)
    have hup := callFn_run OK ES hrec hcall vargs ((gl.mono ex1).mono ex2) ⟨s12.inv, fun id hid => s12.dom id (iv.wf id (by have : st.next + 1 + 1 ≤ id := hid; omega)) fun c => Nat.lt_irrefl _ (Nat.lt_of_lt_of_le c.2 hid)⟩ fr3 hcd
    rw [hrun w1] at hup
    have hres : (resolve a.eval (rangeCall g (w.heap.size + 1)) 0).run P w1 = .ok { target := .fn (.func f) cs, args := fs ++ #[.func (.yield (w.heap.size + 1)) #[] #[]] } w1 := by
      have : resolve a.eval (rangeCall g (w.heap.size + 1)) 0 = Deferred.ofValue (a.eval g) #[.func (.yield (w.heap.size + 1)) #[] #[]] := by
        simp [resolve, Act.eval]
      rw [this, hq]; rfl
    refine ⟨w.heap.size + 1, [{ target := .collected w.heap.size, args := #[] }], w1, _, w1, f, cargs, w1, ?_, hres, fun _ _ => trivial, ?_, fun h => (by cases h), ?_⟩
    · show (Instr.enterLoop fn a.tmps ps x y none).run P w = _
      simp [Instr.enterLoop, w1, L]
      rfl
    · show (callFunc f cargs).run P w1 = _
      exact hrun w1
    · simp only [Upon] at hup
      refine hup.mono fun e3 w3 hK => ?_
      obtain ⟨v, rfl, R3, hv, s3⟩ := hK
      have fr12 : Fresh R st.next (st.next + 1 + 1) := hfr.sub (Nat.le_refl _) hn3
      have e12 : Ext R ((R.upd st.next r0).upd (st.next + 1) l0) := fun i l h => ex2 _ _ (ex1 _ _ h)
      have e3 : Ext ((R.upd st.next r0).upd (st.next + 1) l0) R3 := s3.mono fr3
      have hRl : R3 (st.next + 1) = some l0 := e3 _ _ (Inj.upd_eq _ _ _)
      have hRr : R3 st.next = some r0 := e3 _ _ (ex2 _ _ (Inj.upd_eq _ _ _))
      obtain ⟨L3, hL3, LR3⟩ := loop_at s3.inv hlp hRl
      have hnb : L3.state ≠ .busy := by
        rw [LR3.state, hbusy]; cases lp.over <;> simp
      have s4 : Step P ρ R3 st3.heap w3 R3 (st3.kill (st.next + 1)).heap { w3 with heap := w3.heap.setIfInBounds l0.b (.loop { L3 with state := .exhausted }) } (lowered st3.low (st.next + 1)) st3.next st3.next :=
        Step.free s3.inv hlp hRl (lowered_le _ _).2
      have s123 := s12.trans s3 hlow3 (by omega) hn3
      have s1234 := s123.trans s4 (lowered_le _ _).1 (by omega) (Nat.le_refl _)
      have tf : TR ρ R3 E N tm a.tmps := (t.mono e12).mono e3
      have mf : Marks R3 (st.next :: mk) ({ target := .collected w.heap.size, args := #[] } :: a.defers) := .cons _ r0 _ _ hRr ((m.mono e12).mono e3)
      have hq' := hQ { a with defers := [{ target := .collected w.heap.size, args := #[] }] ++ a.defers } _ R3 tf mf s1234
      refine ⟨L3.pending, _, run_endLoop' (l := l0.b) hL3 hnb, ?_⟩
      have hpend := LR3.pending
      generalize ({ w3 with heap := w3.heap.setIfInBounds l0.b (.loop { L3 with state := .exhausted }) } : World) = w4 at hq' ⊢
      rw [hpend]
      cases hp : lp.pending with
      | none =>
        rw [hp] at he; simp only at he
        rw [← he] at hq'
        exact hq'
      | some e0 =>
        rw [hp] at he; simp only at he
        rw [← he] at hq'
        cases e0 with
        | normal => exact absurd hp LR3.some'
        | exit i => exact wpIn_exit hq'
        | ret => exact wpIn_ret hq'
  | _ => intro tm mk st e tm' mk' st' h; cases h
end
end Go.Ab

namespace Go.Ab
section
variable {tm tm' : T AV} {st st' : St} {v : AV} {call : CallV}
theorem evAs_congr : ∀ {l : List CA}, (∀ x ∈ l, evA tm x = evA tm' x) → evAs tm l = evAs tm' l := by
  intro l
  induction l with
  | nil => intro _; rfl
  | cons x l ih => intro h; simp only [evAs]; rw [h x (by simp), ih fun y hy => h y (by simp [hy])]
theorem optB_congr {x : Option CA} (h : ∀ y ∈ optA x, evA tm y = evA tm' y) (a b : Nat) : optB x tm a b = optB x tm' a b := by
  cases x with
  | none => rfl
  | some x => simp only [optB]; rw [h x (by simp [optA])]
theorem fillParts_congr : ∀ {l : List (Nat × Nat × CA)} {cs : List AV}, (∀ x ∈ partsA l, evA tm x = evA tm' x) → fillParts tm cs l = fillParts tm' cs l := by
  intro l
  induction l with
  | nil => intro cs _; rfl
  | cons p l ih =>
    intro cs h
    obtain ⟨off, size, x⟩ := p
    simp only [fillParts]
    rw [h x (by simp [partsA]), ih fun y hy => h y (by simp [partsA, hy])]
theorem sliceOf_congr {id off len cap esz : Nat} {ex : Bool} {lo hi : Option CA} (h1 : ∀ y ∈ optA lo, evA tm y = evA tm' y) (h2 : ∀ y ∈ optA hi, evA tm y = evA tm' y) : sliceOf id off len cap ex esz tm lo hi st = sliceOf id off len cap ex esz tm' lo hi st := by
  simp only [sliceOf, optB_congr h1, optB_congr h2]
theorem sliceNil_congr {lo hi mx : Option CA} (h1 : ∀ y ∈ optA lo, evA tm y = evA tm' y) (h2 : ∀ y ∈ optA hi, evA tm y = evA tm' y) (h3 : ∀ y ∈ optA mx, evA tm y = evA tm' y) : sliceNil tm lo hi mx st = sliceNil tm' lo hi mx st := by
  simp only [sliceNil, optB_congr h1, optB_congr h2, optB_congr h3]
theorem evOp_congr {co : CO} (h : ∀ x ∈ co.args, evA tm x = evA tm' x) : evOp co tm st call = evOp co tm' st call := by
  cases co
  case build z p => simp only [CO.args] at h; simp only [evOp, opBuild, fillParts_congr h]
  case buildSlice e n l z p => simp only [CO.args] at h; simp only [evOp, opBuildSlice, fillParts_congr h]
  case mkFunc f a b =>
    simp only [CO.args, List.mem_append] at h
    simp only [evOp, opMkFunc, evAsK_eq, evAs_congr fun x hx => h x (.inl hx), evAs_congr fun x hx => h x (.inr hx)]
  case call f l => simp only [CO.args] at h; simp only [evOp, opCall, evAsK_eq, evAs_congr h]
  case min l => simp only [CO.args] at h; simp only [evOp, opMin, evAsK_eq, evAs_congr h]
  case max l => simp only [CO.args] at h; simp only [evOp, opMax, evAsK_eq, evAs_congr h]
  case callV f l =>
    simp only [CO.args, List.mem_cons] at h
    simp only [evOp, opCallV, evAK_eq, evAsK_eq, evAs_congr fun x hx => h x (.inr hx), h f (.inl rfl)]
  case sliceStr x l hi =>
    simp only [CO.args, List.mem_cons, List.mem_append] at h
    simp only [evOp, opSliceStr, evAK_eq, h x (.inl rfl), optB_congr fun x hx => h x (.inr (.inl hx)), optB_congr fun x hx => h x (.inr (.inr hx))]
  case sliceSl e x l hi m =>
    simp only [CO.args, List.mem_cons, List.mem_append] at h
    have h1 : ∀ y ∈ optA l, evA tm y = evA tm' y := fun x hx => h x (.inr (.inl hx))
    have h2 : ∀ y ∈ optA hi, evA tm y = evA tm' y := fun x hx => h x (.inr (.inr (.inl hx)))
    have h3 : ∀ y ∈ optA m, evA tm y = evA tm' y := fun x hx => h x (.inr (.inr (.inr hx)))
    cases m with
    | none => simp only [evOp, opSliceSl, evAK_eq, h x (.inl rfl), sliceOf_congr h1 h2, sliceNil_congr h1 h2 h3]
    | some m => simp only [evOp, opSliceSl, evAK_eq, h x (.inl rfl), sliceOf_congr h1 h2, sliceNil_congr h1 h2 h3, h3 m (by simp [optA])]
  case sliceArr n e x l hi m =>
    simp only [CO.args, List.mem_cons, List.mem_append] at h
    have h1 : ∀ y ∈ optA l, evA tm y = evA tm' y := fun x hx => h x (.inr (.inl hx))
    have h2 : ∀ y ∈ optA hi, evA tm y = evA tm' y := fun x hx => h x (.inr (.inr (.inl hx)))
    simp only [evOp, opSliceArr, evAK_eq, h x (.inl rfl), sliceOf_congr h1 h2]
  all_goals
    simp only [CO.args, List.mem_cons, List.not_mem_nil, or_false, forall_eq_or_imp, forall_eq] at h
    first
      | rfl
      | simp only [evOp, opMv, opPick, opBox, opLoad1, opLoadN, opStore, opNilCheck, opBin, opEql, opUn, opConvInt, opSame, opStrOfBytes, opBytesOfStr, opStrOfInt, opMkIface, opMkSlice, opFieldAddr, opField, opIdxAddrArr, opIdxAddrSl, opIdxArr, opIdxStr, opLookup, opMapUpd, opRange, opNext, opEntry, opExtract, opAppend, opCopy, opDelete, opClear, opLenStr, opLenSl, opLenMap, opCapSl, opSliceData, opUnsafeStr, opTyAssert, opUnsafeTo, opUnsafeFrom, evAK_eq, h]
structure Same (st st' : St) : Prop where
  heap : st'.heap = st.heap
  next : st'.next = st.next
  low : st'.low = st.low
theorem Same.refl (st : St) : Same st st := ⟨rfl, rfl, rfl⟩
theorem ok_same {w : AV} {s : St} (h : (Except.ok (w, s) : M (AV × St)) = .ok (v, st')) (m : Same st s) : Same st st' := (ok_inj h).2 ▸ m
theorem err_same {s : String} (h : (err s : M (AV × St)) = .ok (v, st')) : Same st st' := by cases h
theorem minmax_same (lt : Bool) : ∀ (l : List AV) (x : AV), minmax lt st x l = .ok (v, st') → Same st st' := by
  intro l
  induction l with
  | nil => intro x h; cases x <;> (simp only [minmax] at h; exact ok_same h (Same.refl _))
  | cons y l ih =>
    intro x h
    cases x <;> (try (simp only [minmax] at h)) <;> try (exact err_same h)
    cases y <;> (try (simp only [minmax] at h)) <;> try (exact err_same h)
    repeat' split at h
    all_goals first
      | exact ih _ h
      | exact err_same h
theorem notA_same {x : AV} (h : notA st x = .ok (v, st')) : Same st st' := by
  unfold notA at h
  repeat' split at h
  all_goals first
    | exact ok_same h (Same.refl _)
    | exact err_same h
theorem retEq_same {b : Bool} {x : M AV} (h : retEq b st x = .ok (v, st')) : Same st st' := by
  unfold retEq at h
  repeat' split at h
  all_goals first
    | (cases h; done)
    | exact ok_same h (Same.refl _)
    | exact err_same h
theorem evBin_same {op : BinOp} {x y : AV} (h : evBin op x y st = .ok (v, st')) : Same st st' := by
  simp only [evBin, binInt, binSym, binStr, evStr, symBin, strAdd, retI, retB, forceN_eq, forceI_eq] at h
  repeat' split at h
  all_goals first
    | (cases h; done)
    | exact ok_same h (Same.refl _)
    | exact err_same h
    | (simp only [forceN_eq, forceI_eq] at h; exact ok_same h (Same.refl _))
theorem pick_same {X A B : AV} (h : (decK X st fun d st => match d with | true => .ok (A, st) | false => .ok (B, st) : M (AV × St)) = .ok (v, st')) : Same st st' := by
  unfold decK at h
  cases X <;> (try simp only at h) <;> try (cases h; done)
  case bool b => cases b <;> exact ok_same h (Same.refl _)
  case sbool s =>
    obtain ⟨hp, nx, lo, sc, tr⟩ := st
    cases sc with
    | nil => simp only at h; cases h
    | cons d sc =>
      simp only at h
      cases d <;> exact ok_same h ⟨rfl, rfl, rfl⟩
theorem evOp_same {co : CO} (h0 : opClass co = 0) (h : evOp co tm st call = .ok (v, st')) : Same st st' := by
  cases co <;> (first | (cases h0; done) | skip)
  all_goals simp only [evOp, opMv, opPick, opBuild, opNilCheck, opBin, opEql, opUn, opConvInt, opSame, opStrOfInt, opMkIface, opMkFunc, opSliceStr, opSliceSl, opFieldAddr, opField, opIdxAddrArr, opIdxAddrSl, opIdxArr, opIdxStr, opExtract, opLenStr, opLenSl, opLenArr, opCapSl, opMin, opMax, opSliceData, opTyAssert, opBad, sliceOf, sliceNil, retI, retB, retL, evAK_eq, evAsK_eq, forceN_eq, forceI_eq] at h
  all_goals (repeat' split at h)
  all_goals first
    | (cases h; done)
    | exact err_same h
    | exact ok_same h (Same.refl _)
    | exact evBin_same h
    | exact retEq_same h
    | exact notA_same h
    | exact minmax_same _ _ _ h
    | skip
  all_goals exact pick_same h
theorem asLoad_ev {co : CO} {x : CA} {n : Option Nat} (h : asLoad co = some (x, n)) : evOp co tm st call = retL st (loadAt st.heap (evA tm x) n) ∧ co.args = [x] := by
  cases co <;> simp only [asLoad, Option.some.injEq, Prod.mk.injEq, reduceCtorEq] at h
  case load1 y => obtain ⟨rfl, rfl⟩ := h; exact ⟨by simp only [evOp, opLoad1, evAK_eq], rfl⟩
  case loadN m y => obtain ⟨rfl, rfl⟩ := h; exact ⟨by simp only [evOp, opLoadN, evAK_eq], rfl⟩
mutual
theorem AV.beq_eq : ∀ {a b : AV}, a.beq b = true → a = b
  | .bool a, .bool b, h => by simp only [AV.beq, beq_iff_eq] at h; rw [h]
  | .sbool a, .sbool b, h => by simp only [AV.beq, decide_eq_true_eq] at h; rw [h]
  | .int k a, .int j b, h => by simp only [AV.beq, Bool.and_eq_true, decide_eq_true_eq] at h; rw [h.1, h.2]
  | .sint k a, .sint j b, h => by simp only [AV.beq, Bool.and_eq_true, decide_eq_true_eq] at h; rw [h.1, h.2]
  | .str n a, .str m b, h => by simp only [AV.beq, Bool.and_eq_true] at h; rw [beq_true h.1, beq_true h.2]
  | .nilptr, .nilptr, _ => rfl
  | .ptr a b, .ptr c d, h => by simp only [AV.beq, Bool.and_eq_true] at h; rw [beq_true h.1, beq_true h.2]
  | .nilslice, .nilslice, _ => rfl
  | .slice a b c d x e, .slice a' b' c' d' x' e', h => by
    simp only [AV.beq, Bool.and_eq_true, beq_iff_eq] at h
    obtain ⟨⟨⟨⟨⟨h1, h2⟩, h3⟩, h4⟩, h5⟩, h6⟩ := h
    rw [beq_true h1, beq_true h2, beq_true h3, beq_true h4, h5, beq_true h6]
  | .nilmap, .nilmap, _ => rfl
  | .map a, .map b, h => by simp only [AV.beq] at h; rw [beq_true h]
  | .func f a b, .func g c d, h => by
    simp only [AV.beq, Bool.and_eq_true, decide_eq_true_eq] at h
    rw [h.1.1, AV.beqs_eq h.1.2, AV.beqs_eq h.2]
  | .nilFunc, .nilFunc, _ => rfl
  | .iface t v, .iface u w, h => by simp only [AV.beq, Bool.and_eq_true] at h; rw [beq_true h.1, AV.beq_eq h.2]
  | .nilIface, .nilIface, _ => rfl
  | .agg a, .agg b, h => by simp only [AV.beq] at h; rw [AV.beqs_eq h]
  | .tuple a, .tuple b, h => by simp only [AV.beq] at h; rw [AV.beqs_eq h]
theorem AV.beqs_eq : ∀ {a b : List AV}, AV.beqs a b = true → a = b
  | [], [], _ => rfl
  | a :: l, b :: m, h => by simp only [AV.beqs, Bool.and_eq_true] at h; rw [AV.beq_eq h.1, AV.beqs_eq h.2]
end
end
end Go.Ab
