/- A part of the proof: AbM9, AbMA, AbMB, AbT1, AbT2, AbT3, AbT0, AbT4, AbT5, AbT6, AbT7, AbT8, AbT9, AbTA, AbTB, AbTC, AbTD, AbTE, AbTF, AbTG, AbTH, AbTI, AbTJ, AbTK. -/
import Derived.Laws.Append
import Derived.Test.YtkejpghmemnhfaaGreatDoorNAD
import Derived.CallsIn
import Derived.OrdersIn
import Derived.RangeFuncLeaves

set_option linter.unusedVariables false
set_option linter.unusedSimpArgs false

namespace Go.Ab
section
variable {P : Program} {ρ : Nat → Int} {R : Inj} {E : T Unit} {σ : Sub} {N : Nat} {tm : T AV} {a : Act} {st st' : St} {v : AV} {call : CallV} {h : T AObj} {w : World}
variable {e : TypeId} {i : TypeInfo} {z : Value} {ty : TypeId} {argTypes : Array TypeId} {X Y : AV} {cx cy : Value}
structure AppT (P : Program) (argTypes : Array TypeId) (e : TypeId) (i : TypeInfo) (z : Value) : Prop where
  s : ∃ t, argTypes[0]? = some t ∧ P.underlying t = some (.slice e)
  x : ∃ t u, argTypes[1]? = some t ∧ P.underlying t = some u ∧ ∀ k, u ≠ .int k
  fi : P.info? e = some i
  fz : i.zero = some z
  fb : i.bytes ≠ 0
theorem run_append_room (A : AppT P argTypes e i z) {b : Option Addr} {n C m : Nat} {new : Array Value} {x : Value} {w' : World} (hl : (Builtin.lenOf x).run P w = .ok m w) (hf : (Builtin.firstCells i.size m x).run P w = .ok new w) (hn : n + m ≤ C)
    (hs : match b with | some a => (storeCells (a.add (n * i.size)) new.toList).run P w = .ok () w' | none => w' = w) :
    (Builtin.append_ argTypes ty #[.slice b n C, x]).run P w = .ok (.slice b (n + m) C) w' := by
  obtain ⟨t, ht, hu⟩ := A.s
  obtain ⟨t', u, ht', hu', hk⟩ := A.x
  have hz : (match u with | .int _ => true | _ => false) = false := by cases u <;> first | rfl | exact absurd rfl (hk _)
  cases b with
  | none =>
    simp only at hs; subst hs
    simp [Builtin.append_, ht, ht', run_und hu, run_und hu', sizeOf, run_info A.fi, hl, hn, hf]
  | some b =>
    simp only at hs
    simp [Builtin.append_, ht, ht', run_und hu, run_und hu', sizeOf, run_info A.fi, hl, hn, hf, hs]
theorem run_append_grown (A : AppT P argTypes e i z) {b : Option Addr} {n C m : Nat} {old new : Array Value} {x : Value} (hl : ∀ w, (Builtin.lenOf x).run P w = .ok m w) (hf : (Builtin.firstCells i.size m x).run P w.drew = .ok new w.drew) (ho : (Builtin.firstCells i.size n (.slice b n C)).run P w.drew = .ok old w.drew)
    (hn : C < n + m) (hfit : (n + m) * i.bytes ≤ 140737488355328) :
    (Builtin.append_ argTypes ty #[.slice b n C, x]).run P w =
      .ok (.slice (some ⟨w.heap.size, 0, none⟩) (n + m) (grownCap w (n + m) C e)) (w.drew.alloc (.cells (old ++ (new ++ Builtin.zeroCells z.cells (grownCap w (n + m) C e - (n + m)))) e)) := by
  obtain ⟨t, ht, hu⟩ := A.s
  obtain ⟨t', u, ht', hu', hk⟩ := A.x
  have hz : (match u with | .int _ => true | _ => false) = false := by cases u <;> first | rfl | exact absurd rfl (hk _)
  have hn' : ¬ (n + m ≤ C) := by omega
  have hfit' := growslice_fits hn hfit
  have h48' : ¬ (281474976710656 < Builtin.nextslicecap (n + m) C * i.bytes) := by omega
  have hzr : ∀ w, (zeroValue e).run P w = .ok z w := fun w => by simp [zeroValue, run_info A.fi, A.fz]
  simp [Builtin.append_, ht, ht', run_und hu, run_und hu', sizeOf, run_info A.fi, hl, hn', hf, ho, hz, A.fb, h48', Question.forced, hzr, newRow, grownCap]
theorem loadFrom_length : ∀ {n off : Nat} {cs : T AV} {vs : List AV}, loadFrom cs off n = some vs → vs.length = n := by
  intro n
  induction n with
  | zero => intro off cs vs h; simp only [loadFrom, Option.some.injEq] at h; subst h; rfl
  | succ n ih =>
    intro off cs vs h
    simp only [loadFrom] at h
    cases hc : cs.get off with
    | none => rw [hc] at h; cases h
    | some y =>
      rw [hc] at h; simp only at h
      cases hl' : loadFrom cs (Nat.succ off) n with
      | none => rw [hl'] at h; cases h
      | some l' =>
        rw [hl'] at h; simp only [Option.some.injEq] at h; subst h
        simp [ih hl']
theorem src_ok {esz m : Nat} {vs : List AV} (vy : VR ρ R Y cy) (h : srcCells st.heap esz Y = some (m, vs)) :
    (∀ w, (Builtin.lenOf cy).run P w = .ok m w) ∧ vs.length = m * esz ∧ ∀ w, Inv P ρ R st.heap w → ∃ new, (Builtin.firstCells esz m cy).run P w = .ok new w ∧ VRs ρ R vs new.toList := by
  cases vy <;> (try simp only [srcCells] at h) <;> try (cases h; done)
  case nilslice =>
    simp only [Option.some.injEq, Prod.mk.injEq] at h
    obtain ⟨rfl, rfl⟩ := h
    exact ⟨fun w => rfl, by simp, fun w _ => ⟨#[], rfl, .nil⟩⟩
  case str n b s hs hb =>
    split at h
    · rename_i he
      have he := beq_true he
      subst he
      simp only [Option.some.injEq, Prod.mk.injEq] at h
      obtain ⟨rfl, rfl⟩ := h
      have hsz := size_of hs
      refine ⟨fun w => by simp [Builtin.lenOf, hsz], by rw [bytesL_spec]; simp [unpack_length], fun w _ => ?_⟩
      have hr := Lib.run_firstCells_string (P := P) (w := w) 1 s
      rw [hsz] at hr
      refine ⟨_, hr, ?_⟩
      rw [bytesL_spec, ← hs]
      have := VRs.ofBytes (ρ := ρ) (R := R) s.data.toList
      have e : (Lib.strCells s) = s.data.toList.map byteC := by simp [Lib.strCells, byteC]
      simpa [e] using this
    · cases h
  case slice id off n cap ex es l x C hR ha hl hc hx hr =>
    cases n with
    | zero =>
      simp only [Option.some.injEq, Prod.mk.injEq] at h
      obtain ⟨rfl, rfl⟩ := h
      exact ⟨fun w => rfl, by simp, fun w _ => ⟨#[], by simp [Builtin.firstCells, loadCells, loadCellsFrom], .nil⟩⟩
    | succ n =>
      simp only at h
      split at h
      · rename_i he
        have he := beq_true he
        subst he
        split at h
        · rename_i oe cs fz hco
          split at h
          · rename_i l' hlf
            simp only [Option.some.injEq, Prod.mk.injEq] at h
            obtain ⟨rfl, rfl⟩ := h
            have had := ha.resolve_left (by omega)
            subst had
            refine ⟨fun w => rfl, loadFrom_length hlf, fun w iv => ?_⟩
            obtain ⟨c, el, fr, hx', r⟩ := iv.cells (cellsOf_get hco) hR
            obtain ⟨mm, hm, hv⟩ := loadCells_ok (P := P) hx' r hlf
            exact ⟨mm, hm, hv⟩
          · cases h
        · cases h
      · cases h
theorem allOne_true {vs : List AV} (h : allOne vs = true) : ∀ v ∈ vs, v.one = true := by
  induction vs with
  | nil => intro v hv; cases hv
  | cons x l ih =>
    simp only [allOne] at h
    split at h
    · rename_i hx
      intro v hv
      cases hv with
      | head => exact hx
      | tail _ hv => exact ih h v hv
    · cases h
theorem append_new' {h0 : T AObj} {nx : Nat} {esz m : Nat} {old vs : List AV} {co cn : Array Value} (vo : VRs ρ R old co.toList) (vn : VRs ρ R vs cn.toList) (zr : Array Value) (el : TypeId) (oe : Option Nat) (hoe : oe = none ∨ oe = some el) (fz : Nat) (iv : Inv P ρ R h0 w) (hn : R nx = none) (low : Nat) {C : Nat} (hC : C * esz ≤ (co ++ (cn ++ zr)).size) (hm : m ≤ C) :
    VR ρ (R.upd nx ⟨w.heap.size, 0, (co ++ (cn ++ zr)).size⟩) (.slice nx 0 m m false esz) (.slice (some ⟨w.heap.size, 0, none⟩) m C) ∧
    Step P ρ R h0 w (R.upd nx ⟨w.heap.size, 0, (co ++ (cn ++ zr)).size⟩) (h0.set nx (.cells oe (T.leaf.ofList 0 (old ++ vs)) fz)) (w.drew.alloc (.cells (co ++ (cn ++ zr)) el)) low nx (nx + 1) := by
  have iv1 : Inv P ρ R h0 w.drew := iv.congr rfl
  refine ⟨.slice _ 0 m m false esz ⟨w.heap.size, 0, _⟩ _ C (Inj.upd_eq _ _ _) (.inr rfl) (Nat.le_refl _) hm (fun h => by cases h) (by simpa using hC), ?_⟩
  have s0 : Step P ρ R h0 w R h0 w.drew low nx nx := Step.drew iv low nx (w.drawn + 1)
  refine s0.trans (Step.alloc (P := P) iv1 hn (l := ⟨w.heap.size, 0, (co ++ (cn ++ zr)).size⟩) rfl (.cells _ _ _ _ _ _ _ ?_) low) (Nat.le_refl _) (Nat.le_refl _) (Nat.le_succ _)
  have r : CellsR ρ (R.upd nx ⟨w.heap.size, 0, (co ++ (cn ++ zr)).size⟩) (some el) (T.leaf.ofList 0 (old ++ vs)) 0 ⟨w.heap.size, 0, (co ++ (cn ++ zr)).size⟩ (co ++ (cn ++ zr)) el (0, 0) := by
    refine cellsR_new (fun i v hi => ?_) el _
    have vv := (VRs.append vo vn).mono (Inj.upd_ext hn ⟨w.heap.size, 0, (co ++ (cn ++ zr)).size⟩)
    obtain ⟨cv, e1, e2⟩ := vv.get hi
    refine ⟨cv, ?_, e2⟩
    have hlt := (List.getElem?_eq_some_iff.1 e1).1
    rw [← Array.append_assoc, Array.getElem?_append_left (by simpa using hlt), ← e1, ← Array.toList_append, Array.getElem?_toList]
  refine ⟨fun e' he => ⟨?_, rfl, .inl rfl⟩, r.size, r.rel, fun _ _ _ hc => by simp at hc⟩
  rcases hoe with rfl | rfl
  · cases he
  · injection he
theorem append_new {esz m : Nat} {old vs : List AV} {co cn : Array Value} (vo : VRs ρ R old co.toList) (vn : VRs ρ R vs cn.toList) (zr : Array Value) (el : TypeId) (iv : Inv P ρ R st.heap w) (hn : R st.next = none) (low : Nat) {C : Nat} (hC : C * esz ≤ (co ++ (cn ++ zr)).size) (hm : m ≤ C) :
    VR ρ (R.upd st.next ⟨w.heap.size, 0, (co ++ (cn ++ zr)).size⟩) (.slice st.next 0 m m false esz) (.slice (some ⟨w.heap.size, 0, none⟩) m C) ∧
    Step P ρ R st.heap w (R.upd st.next ⟨w.heap.size, 0, (co ++ (cn ++ zr)).size⟩) (st.heap.set st.next (.cells (some el) (T.leaf.ofList 0 (old ++ vs)) 0)) (w.drew.alloc (.cells (co ++ (cn ++ zr)) el)) low st.next (st.next + 1) :=
  append_new' vo vn zr el (some el) (.inr rfl) 0 iv hn low hC hm
theorem elemJoin_or (oe : Option Nat) (e off : Nat) : elemJoin oe e off = none ∨ elemJoin oe e off = some e := by
  unfold elemJoin
  split
  · split
    · exact .inr rfl
    · exact .inl rfl
  · exact .inl rfl
theorem elemJoin_some {oe : Option Nat} {e off e' : Nat} (h : elemJoin oe e off = some e') : oe = some e' ∧ off = 0 := by
  unfold elemJoin at h
  split at h
  · rename_i x
    split at h
    · rename_i hb
      simp only [Bool.and_eq_true] at hb
      have h1 := beq_true hb.1
      have h2 := beq_true hb.2
      injection h with h
      exact ⟨by rw [h1, h], h2⟩
    · cases h
  · cases h
theorem append_ok {esz bytes : Nat} (A : AppT P argTypes e i z) (hs : i.size = esz) (hb : i.bytes = bytes) (hzs : z.cells.size = esz) (vx : VR ρ R X cx) (vy : VR ρ R Y cy) (h : evAppend e esz bytes X Y st = .ok (v, st')) : BiOK P ρ R .append argTypes ty #[cx, cy] st st' v := by
  subst hs; subst hb
  have zsize : ∀ k, (Builtin.zeroCells z.cells k).size = k * i.size := fun k => by simp [Builtin.zeroCells, hzs]
  unfold evAppend at h
  split at h
  · cases h
  · rename_i m vs hsrc
    obtain ⟨hl, hlen, hfc⟩ := src_ok (P := P) vy hsrc
    cases vx <;> (try simp only at h) <;> try (cases h; done)
    case nilslice =>
      cases m with
      | zero =>
        simp only at h
        obtain ⟨rfl, rfl⟩ := ok_inj h
        refine ⟨Mono.refl _, fun w iv hf => ?_⟩
        obtain ⟨new, hnew, _⟩ := hfc w iv
        refine ⟨.slice none 0 0, w, R, fun q => ?_, .nilslice, Step.refl iv _ _⟩
        have := run_append_room (ty := ty) (b := none) (n := 0) (C := 0) (w' := w) A (hl w) hnew (Nat.le_refl _) rfl
        simp [builtin, this]
      | succ m =>
        simp only at h
        split at h
        · rename_i hb
          simp only [Bool.and_eq_true] at hb
          have h1 := ble_true hb.1
          have h1 : (m + 1) * i.bytes ≤ 70368744177664 := h1
          simp only [appendNew, T.ofListK_eq, St.newK_eq, List.nil_append] at h
          obtain ⟨rfl, rfl⟩ := ok_inj h
          refine ⟨Mono.new _ _, fun w iv hf => ?_⟩
          have iv1 : Inv P ρ R st.heap w.drew := iv.congr rfl
          obtain ⟨new, hnew, hv⟩ := hfc w.drew iv1
          have hr := run_append_grown (ty := ty) (b := none) (n := 0) (C := 0) (old := #[]) A hl hnew rfl (by omega) (by rw [Nat.zero_add]; omega)
          have hg : m + 1 ≤ grownCap w (0 + (m + 1)) 0 e := by simp only [grownCap, Question.cut]; omega
          have hsz : new.size = (m + 1) * i.size := by
            have := hv.length; simp only [Array.length_toList] at this; omega
          obtain ⟨r1, r2⟩ := append_new (esz := i.size) (m := m + 1) (C := grownCap w (0 + (m + 1)) 0 e) (VRs.nil (ρ := ρ) (R := R)) (co := #[]) hv (Builtin.zeroCells z.cells (grownCap w (0 + (m + 1)) 0 e - (0 + (m + 1)))) e iv (hf _ (Nat.le_refl _) (Nat.lt_succ_self _)) st.low (by
            simp only [Array.size_append, zsize, hsz, Nat.zero_add]
            obtain ⟨d, hd⟩ : ∃ d, grownCap w (m + 1) 0 e = m + 1 + d := ⟨grownCap w (m + 1) 0 e - (m + 1), by rw [Nat.zero_add] at hg; omega⟩
            rw [hd, Nat.add_mul, show m + 1 + d - (m + 1) = d by omega]
            simp) hg
          simp only [Nat.zero_add] at hr r1 r2
          exact ⟨_, _, _, fun q => by simp only [builtin, Sem.run_bind, hr, Result.andThen_ok, Sem.run_pure], r1, r2⟩
        · cases h
    case slice id off n cap ex es l x C hR ha hln hc hx hr =>
      split at h
      · cases h
      · rename_i hb
        simp only [Bool.and_eq_true] at hb
        have he := beq_true hb.1
        have h1s := ble_true hb.2
        subst he
        cases m with
        | zero =>
          simp only at h
          obtain ⟨rfl, rfl⟩ := ok_inj h
          refine ⟨Mono.refl _, fun w iv hf => ?_⟩
          obtain ⟨new, hnew, hv⟩ := hfc w iv
          have hnl : new.toList = [] := by
            have := hv.length
            exact List.eq_nil_of_length_eq_zero (by omega)
          have := run_append_room (ty := ty) (b := some x) (n := n) (C := C) (w' := w) A (hl w) hnew (by omega) (by rw [hnl]; rfl)
          exact ⟨.slice (some x) n C, w, R, fun q => by simp only [builtin, Sem.run_bind, this, Result.andThen_ok, Sem.run_pure, Nat.add_zero], .slice id off n cap ex _ l x C hR ha hln hc hx hr, Step.refl iv _ _⟩
        | succ m =>
          simp only at h
          unfold appendTo at h
          split at h
          · cases h
          · rename_i hsz
            simp only [Bool.and_eq_true] at hsz
            have hbytes : (n + (m + 1)) * i.bytes ≤ 70368744177664 := ble_true hsz.1
            have hone := allOne_true hsz.2
            split at h
            · cases h
            · rename_i oe cs fz hco
              have hg := cellsOf_get hco
              have inplace : ∀ w, Inv P ρ R st.heap w → n + (m + 1) ≤ C → fz ≤ off + n * i.size → ∃ c el fr new, w.heap[l.b]? = some (.cells c el fr) ∧ CellsR ρ R oe cs fz l c el fr ∧ VRs ρ R vs new ∧ l.base + (off + n * i.size) + new.length ≤ c.size ∧ off ≤ l.room ∧ x = ⟨l.b, l.base + off, none⟩ ∧
                  (Builtin.append_ argTypes ty #[.slice (some x) n C, cy]).run P w = .ok (.slice (some x) (n + (m + 1)) C) { w with heap := w.heap.setIfInBounds l.b (.cells (setRange c (l.base + (off + n * i.size)) new) el fr) } := by
                intro w iv hC hfz
                obtain ⟨new, hnew, hv⟩ := hfc w iv
                obtain ⟨c, el, fr, hx', r⟩ := iv.cells hg hR
                have had := ha.resolve_left (by omega)
                have hnl : new.toList.length = (m + 1) * i.size := by rw [← hv.length]; exact hlen
                have hroom : n * i.size + (m + 1) * i.size ≤ C * i.size := by rw [← Nat.add_mul]; exact Nat.mul_le_mul_right _ hC
                have hcs := r.size
                have hsize : l.base + (off + n * i.size) + new.toList.length ≤ c.size := by omega
                have hst := run_storeCells (P := P) l.b (l.base + (off + n * i.size)) el fr new.toList 0 c w hx' (by omega) (fun j h1 h2 => r.free j (by omega) (by omega)) (hv.one hone)
                refine ⟨c, el, fr, new.toList, hx', r, hv, hsize, by omega, had, ?_⟩
                refine run_append_room (ty := ty) (b := some x) A (hl w) hnew hC ?_
                subst had
                simp only [addr_add, Nat.add_assoc] at hst ⊢
                exact hst
              split at h
              · rename_i hcap
                have hcap : n + (m + 1) ≤ cap := ble_true hcap
                split at h
                · rename_i hfz
                  have hfz : fz ≤ off + n * i.size := ble_true hfz
                  simp only [T.ofListK_eq, St.putK_eq, forceN_eq] at h
                  obtain ⟨rfl, rfl⟩ := ok_inj h
                  refine ⟨Mono.put _ _ _, fun w iv hf => ?_⟩
                  obtain ⟨c, el, fr, new, hx', r, hv, hsize, _, had, hrun⟩ := inplace w iv (by omega) hfz
                  refine ⟨.slice (some x) (n + (m + 1)) C, _, R, fun q => by simp only [builtin, Sem.run_bind, hrun, Result.andThen_ok, Sem.run_pure], .slice id off (n + (m + 1)) cap ex _ l x C hR ha hcap hc hx hr, Step.write iv hg hR (.cells _ _ _ _ _ _ _ (r.write hv hsize fun j => ?_)) (lowered_le _ _).2⟩
                  rw [T.get_ofList]
                  show (if h : off + n * i.size ≤ j ∧ j < off + n * i.size + vs.length then _ else _) = _
                  by_cases hj : off + n * i.size ≤ j ∧ j < off + n * i.size + vs.length
                  · rw [dif_pos hj, if_pos hj, List.getElem?_eq_getElem (by omega)]; rfl
                  · rw [dif_neg hj, if_neg hj]
                · cases h
              · rename_i hcap
                split at h
                · cases h
                · rename_i old hold
                  have hol : old.length = n * i.size := loadFrom_length hold
                  have grown : ∀ w, Inv P ρ R st.heap w → C < n + (m + 1) → ∃ co cn, VRs ρ R old co.toList ∧ VRs ρ R vs cn.toList ∧ n + (m + 1) ≤ grownCap w (n + (m + 1)) C e ∧
                      grownCap w (n + (m + 1)) C e * i.size ≤ (co ++ (cn ++ Builtin.zeroCells z.cells (grownCap w (n + (m + 1)) C e - (n + (m + 1))))).size ∧
                      (Builtin.append_ argTypes ty #[.slice (some x) n C, cy]).run P w = .ok (.slice (some ⟨w.heap.size, 0, none⟩) (n + (m + 1)) (grownCap w (n + (m + 1)) C e)) (w.drew.alloc (.cells (co ++ (cn ++ Builtin.zeroCells z.cells (grownCap w (n + (m + 1)) C e - (n + (m + 1))))) e)) := by
                    intro w iv hC
                    have iv1 : Inv P ρ R st.heap w.drew := iv.congr rfl
                    obtain ⟨new, hnew, hv⟩ := hfc w.drew iv1
                    obtain ⟨c, el, fr, hx', r⟩ := iv1.cells hg hR
                    obtain ⟨mm, hm, hvo⟩ := loadCells_ok (P := P) hx' r hold
                    have ho : (Builtin.firstCells i.size n (.slice (some x) n C)).run P w.drew = .ok mm w.drew := by
                      by_cases h0 : n = 0
                      · subst h0
                        have : mm = #[] := by
                          have := hvo.length
                          simp only [Array.length_toList] at this
                          exact Array.eq_empty_of_size_eq_zero (by omega)
                        subst this
                        simp [Builtin.firstCells, loadCells, loadCellsFrom]
                      · have had := ha.resolve_left (by omega)
                        subst had; exact hm
                    have hgc : n + (m + 1) ≤ grownCap w (n + (m + 1)) C e := by simp only [grownCap, Question.cut]; omega
                    refine ⟨mm, new, hvo, hv, hgc, ?_, run_append_grown (ty := ty) A hl hnew ho hC (by omega)⟩
                    have h1 : mm.size = n * i.size := by have := hvo.length; simp only [Array.length_toList] at this; omega
                    have h2 : new.size = (m + 1) * i.size := by have := hv.length; simp only [Array.length_toList] at this; omega
                    obtain ⟨d, hd⟩ : ∃ d, grownCap w (n + (m + 1)) C e = n + (m + 1) + d := ⟨grownCap w (n + (m + 1)) C e - (n + (m + 1)), by omega⟩
                    simp only [Array.size_append, zsize, h1, h2, hd, show n + (m + 1) + d - (n + (m + 1)) = d by omega, Nat.add_mul]
                    omega
                  split at h
                  · simp only [forceN_eq, appendNew, T.ofListK_eq, St.newK_eq] at h
                    obtain ⟨rfl, rfl⟩ := ok_inj h
                    refine ⟨Mono.new _ _, fun w iv hf => ?_⟩
                    have hCc : C = cap := hx rfl
                    have hcap' : ¬ n + (m + 1) ≤ cap := fun c => by rw [show Nat.ble (Nat.add n (m + 1)) cap = true from Nat.ble_eq_true_of_le c] at hcap; cases hcap
                    obtain ⟨co, cn, vo, vn, hgc, hsz', hrun⟩ := grown w iv (by omega)
                    obtain ⟨r1, r2⟩ := append_new vo vn _ e iv (hf _ (Nat.le_refl _) (Nat.lt_succ_self _)) st.low hsz' hgc
                    exact ⟨_, _, _, fun q => by simp only [builtin, Sem.run_bind, hrun, Result.andThen_ok, Sem.run_pure], r1, r2⟩
                  · split at h
                    · cases h
                    · rename_i hfz
                      have hfz : fz ≤ off + n * i.size := ble_true hfz
                      simp only [forceN_eq, T.ofListK_eq, St.newK_eq] at h
                      obtain ⟨rfl, rfl⟩ := ok_inj h
                      refine ⟨(Mono.kill st id).trans (Mono.new _ _), fun w iv hf => ?_⟩
                      have hnone : R st.next = none := hf _ (Nat.le_refl _) (Nat.lt_succ_self _)
                      by_cases hC : n + (m + 1) ≤ C
                      · obtain ⟨c, el, fr, new, hx', r, hv, hsize, hoff, had, hrun⟩ := inplace w iv hC hfz
                        have had' := had
                        have rr : CellsR ρ R (elemJoin oe e off) (T.leaf.ofList 0 (old ++ vs)) (Nat.sub fz off) ⟨l.b, l.base + off, l.room - off⟩ (setRange c (l.base + (off + n * i.size)) new) el fr := by
                          have hcs := r.size
                          refine ⟨fun e' he => ?_, ?_, fun j v hj => ?_, fun j h1 h2 => ?_⟩
                          · obtain ⟨h1, h2⟩ := elemJoin_some he
                            obtain ⟨q1, q2, q3⟩ := r.elem _ h1
                            refine ⟨q1, by show l.base + off = 0; omega, ?_⟩
                            rcases q3 with q3 | q3
                            · exact .inl q3
                            · exact .inr (by show fr.2 ≤ fz - off; omega)
                          · rw [setRange_size]; show c.size = l.base + off + (l.room - off); omega
                          · rw [T.get_ofList] at hj
                            split at hj
                            · rename_i hjr
                              simp only [Option.some.injEq] at hj
                              have hj' : (old ++ vs)[j]? = some v := by rw [← hj]; simp
                              rw [setRange_get _ _ _ _ hsize]
                              show ∃ cv, (if _ ≤ l.base + off + j ∧ l.base + off + j < _ then _ else _) = _ ∧ _
                              by_cases hlo : j < n * i.size
                              · rw [if_neg (by omega)]
                                rw [List.getElem?_append_left (by omega)] at hj'
                                have := loadFrom_get hold j v hj'
                                obtain ⟨cv, e1, e2⟩ := r.rel _ _ this
                                exact ⟨cv, by rw [Nat.add_assoc]; exact e1, e2⟩
                              · rw [List.getElem?_append_right (by omega), hol] at hj'
                                obtain ⟨cv, e1, e2⟩ := hv.get hj'
                                have := (List.getElem?_eq_some_iff.1 e1).1
                                rw [if_pos (by omega)]
                                exact ⟨cv, by rw [show l.base + off + j - (l.base + (off + n * i.size)) = j - n * i.size by omega]; exact e1, e2⟩
                            · rw [T.get_leaf] at hj; cases hj
                          · rw [setRange_size] at h2
                            have h1 : l.base + off + (fz - off) ≤ j := h1
                            exact r.free j (by omega) h2
                        have rr' := rr.mono (Inj.upd_ext hnone ⟨l.b, l.base + off, l.room - off⟩)
                        refine ⟨.slice (some x) (n + (m + 1)) C, _, R.upd st.next ⟨l.b, l.base + off, l.room - off⟩, fun q => by simp only [builtin, Sem.run_bind, hrun, Result.andThen_ok, Sem.run_pure], ?_, Step.rename (l' := ⟨l.b, l.base + off, l.room - off⟩) iv hg hR hnone rfl (.cells _ _ _ _ _ _ _ rr') (lowered_le _ _).2⟩
                        refine .slice _ 0 _ _ false _ ⟨l.b, l.base + off, l.room - off⟩ _ C (Inj.upd_eq _ _ _) (.inr had') (Nat.le_refl _) hC (fun h => by cases h) ?_
                        show 0 + C * i.size ≤ l.room - off
                        omega
                      · obtain ⟨co, cn, vo, vn, hgc, hsz', hrun⟩ := grown w iv (by omega)
                        have hk := Step.kill (P := P) iv id (st.kill id).low st.next
                        obtain ⟨r1, r2⟩ := append_new' (h0 := st.heap.del id) (nx := st.next) vo vn _ e (elemJoin oe e off) (elemJoin_or _ _ _) (Nat.sub fz off) hk.inv hnone (st.kill id).low hsz' hgc
                        exact ⟨_, _, _, fun q => by simp only [builtin, Sem.run_bind, hrun, Result.andThen_ok, Sem.run_pure], r1, hk.trans r2 (Nat.le_refl _) (Nat.le_refl _) (Nat.le_succ _)⟩
end
end Go.Ab

namespace Go.Ab
section
variable {P : Program} {ρ : Nat → Int} {R : Inj} {E : T Unit} {σ : Sub} {N : Nat} {tm : T AV} {a : Act} {st st' : St} {v : AV} {call : CallV} {h : T AObj} {w : World}
variable {dst : Option Tmp} {ty : TypeId} {pos : String} {af : Array Edge} {g : Option (Nat × Bool)}
theorem sliceOf_st {id off len cap : Nat} {ex : Bool} {esz : Nat} {cl ch : Option CA} (h : sliceOf id off len cap ex esz tm cl ch st = .ok (v, st')) : st' = st := by
  unfold sliceOf at h
  repeat' split at h
  all_goals first
    | (simp only [forceN_eq] at h; exact (ok_inj h).2.symm)
    | cases h
theorem sliceArr_run (C : Ctx ρ R E σ N tm a) {x : Operand} {cx : CA} (hx : cOpnd E σ x = some cx) {lo hi : Option Operand} {cl ch : Option CA} (hl : cOptOpnd E σ lo = some cl) (hh : cOptOpnd E σ hi = some ch) {e : TypeId} {n esz : Nat} (hes : sizeOfT P e = some esz)
    (h : opSliceArr n esz cx cl ch none tm st call = .ok (v, st')) :
    st' = st ∧ ∀ w, Inv P ρ R st.heap w → ∃ ad low high, a.eval x = .pointer (some ad) ∧ (∀ w, (Instr.sliceBounds false n n (lo.map a.eval) (hi.map a.eval) none).run P w = .ok (low, high, n) w) ∧
      VR ρ R v (.slice (some (if n = low then ad else ad.add (low * esz))) (high - low) (n - low)) := by
  simp only [opSliceArr, evAK_eq] at h
  have vx := C.opnd hx
  generalize evA tm cx = X at vx h
  generalize hqx : a.eval x = cvx at vx
  cases vx <;> (try simp only at h) <;> try (cases h; done)
  case ptr id off l hR =>
  split at h
  · cases h
  · rename_i m hm
    split at h
    · rename_i q hload
      refine ⟨sliceOf_st h, fun w iv => ?_⟩
      have hroom : off + n * esz ≤ l.room := by
        unfold load1At at hload
        split at hload
        · rename_i e' cs fz hg
          obtain ⟨c, el, fr, hx', r⟩ := iv.cells hg hR
          obtain ⟨cv, hcv, _⟩ := r.rel _ _ hload
          have h1 := (Array.getElem?_eq_some_iff.1 hcv).1
          have h2 := r.size
          have h3 : n * esz = m + 1 := hm
          have h4 : l.base + (off + m) < c.size := h1
          omega
        · cases hload
      obtain ⟨_, low, high, hrun, hv⟩ := sliceOf_ok (P := P) C hR hl hh h (ad := ⟨l.b, l.base + off, none⟩) (K := n) (.inr rfl) (Nat.le_refl _) (Nat.le_refl _) (fun _ => rfl) hroom false
      refine ⟨_, low, high, rfl, hrun, ?_⟩
      have e : (if n = low then some (⟨l.b, l.base + off, none⟩ : Addr) else (some ⟨l.b, l.base + off, none⟩ : Option Addr).map (·.add (low * esz))) = some (if n = low then ⟨l.b, l.base + off, none⟩ else (⟨l.b, l.base + off, none⟩ : Addr).add (low * esz)) := by
        split <;> rfl
      rw [← e]; exact hv
    · cases h
theorem sliceArr_ok (C : Ctx ρ R E σ N tm a) {t : TypeId} {x : Operand} {lo hi mx : Option Operand} {co : CO} (hc : cOp P E σ ⟨dst, .slice t x lo hi mx, ty, pos, af, g⟩ = some co) (hcl : opClass co = 3) (h : evOp co tm st call = .ok (v, st')) :
    MemOK P ρ R a ⟨dst, .slice t x lo hi mx, ty, pos, af, g⟩ st st' v := by
  simp only [cOp] at hc
  obtain ⟨cx, hx, hc⟩ := bind_some hc
  obtain ⟨cl, hl, hc⟩ := bind_some hc
  obtain ⟨ch, hh, hc⟩ := bind_some hc
  obtain ⟨cm, hm, hc⟩ := bind_some hc
  obtain ⟨u, hu, hc⟩ := bind_some hc
  cases u <;> simp only at hc <;> try (cases hc; done)
  case string =>
    split at hc
    · cases hc
    · simp only [Option.some.injEq] at hc; subst hc; simp [opClass] at hcl
  case slice e =>
    obtain ⟨esz, hes, hc⟩ := bind_some hc
    simp only [Option.some.injEq] at hc; subst hc; simp [opClass] at hcl
  case array n e =>
    obtain ⟨esz, hes, hc⟩ := bind_some hc
    simp only [Option.some.injEq] at hc; subst hc
    have hcm : cm = none := by
      simp only [evOp, opSliceArr, evAK_eq] at h
      split at h
      · split at h
        · rfl
        · cases h
      · cases h
    subst hcm
    have hmx : mx = none := by
      rcases cOptOpnd_some hm with ⟨rfl, _⟩ | ⟨y, d, _, h2, _⟩
      · rfl
      · cases h2
    subst hmx
    obtain ⟨rfl, hrun⟩ := sliceArr_run (P := P) (call := call) C hx hl hh hes h
    refine ⟨Mono.refl _, fun w iv hf => ?_⟩
    obtain ⟨ad, low, high, hq, hb, hv⟩ := hrun w iv
    refine ⟨_, w, R, .inl ?_, hv, Step.refl iv _ _⟩
    simp only [execOp, hq, Instr.sliceAt, Sem.run_bind, run_und hu, Result.andThen_ok, Instr.sureAddr, Sem.run_pure, Option.map_none, hb, run_size hes]
  case pointer arr =>
    obtain ⟨u', hu', hc⟩ := bind_some hc
    cases u' <;> simp only at hc <;> try (cases hc; done)
    case array n e =>
    split at hc
    · cases hc
    · rename_i hmx
      obtain ⟨esz, hes, hc⟩ := bind_some hc
      simp only [Option.some.injEq] at hc; subst hc
      have hmx : mx = none := by cases mx <;> simp_all
      subst hmx
      have hcm : cm = none := by
        rcases cOptOpnd_some hm with ⟨_, rfl⟩ | ⟨y, d, h1, _, _⟩
        · rfl
        · cases h1
      subst hcm
      obtain ⟨rfl, hrun⟩ := sliceArr_run (P := P) (call := call) C hx hl hh hes h
      refine ⟨Mono.refl _, fun w iv hf => ?_⟩
      obtain ⟨ad, low, high, hq, hb, hv⟩ := hrun w iv
      refine ⟨_, w, R, .inl ?_, hv, Step.refl iv _ _⟩
      simp only [execOp, hq, Instr.sliceAt, Sem.run_bind, run_und hu, run_und hu', Result.andThen_ok, Instr.slice, asAddr, Sem.run_pure, Option.map_none, hb, run_size hes]
end
end Go.Ab

namespace Go.Ab
structure OpOK (P : Program) (ρ : Nat → Int) (R : Inj) (a : Act) (o : Oper) (st st' : St) (v : AV) : Prop where
  mono : Mono st st'
  run : ∀ w, Inv P ρ R st.heap w → Fresh R st.next st'.next → Conds ρ st'.tr → ∃ cv w' R', Runs P a o w cv w' ∧ VR ρ R' v cv ∧ Step P ρ R st.heap w R' st'.heap w' st'.low st.next st'.next
section
variable {P : Program} {ρ : Nat → Int} {R : Inj} {E : T Unit} {σ : Sub} {N : Nat} {tm : T AV} {a : Act} {st st' : St} {v : AV} {call : CallV} {h : T AObj} {w : World}
variable {dst : Option Tmp} {ty : TypeId} {pos : String} {af : Array Edge} {g : Option (Nat × Bool)}
theorem MemOK.op {o : Oper} (m : MemOK P ρ R a o st st' v) : OpOK P ρ R a o st st' v := ⟨m.mono, fun w iv hf _ => m.run w iv hf⟩
theorem PureOK.op {o : Oper} (m : PureOK P ρ R a o st st' v) : OpOK P ρ R a o st st' v := by
  obtain ⟨rfl, cv, hr, hv⟩ := m
  exact ⟨Mono.refl _, fun w iv _ _ => ⟨cv, w, R, .inl (hr w), hv, Step.refl iv _ _⟩⟩
theorem BiOK.op {b : Builtin} {argTypes : Array TypeId} {args : Array Operand} (m : BiOK P ρ R b argTypes ty (args.map a.eval) st st' v) : OpOK P ρ R a ⟨dst, .call { callee := .builtin b, args := args, argTypes := argTypes }, ty, pos, af, g⟩ st st' v :=
  ⟨m.mono, fun w iv hf _ => by
    obtain ⟨cv, w', R', hr, hv, hs⟩ := m.run w iv hf
    exact ⟨cv, w', R', .inl (by rw [run_builtin]; exact hr _), hv, hs⟩⟩
theorem pick_ok (C : Ctx ρ R E σ N tm a) {c x y : Operand} {co : CO} (hc : cOp P E σ ⟨dst, .pick c x y, ty, pos, af, g⟩ = some co) (h : evOp co tm st call = .ok (v, st')) : OpOK P ρ R a ⟨dst, .pick c x y, ty, pos, af, g⟩ st st' v := by
  simp only [cOp] at hc
  obtain ⟨cc, hcc, hc⟩ := bind_some hc
  obtain ⟨cx, hx, hc⟩ := bind_some hc
  obtain ⟨cy, hy, hc⟩ := bind_some hc
  simp only [Option.some.injEq] at hc; subst hc
  simp only [evOp, opPick, evAK_eq] at h
  have vc := C.opnd hcc
  have vx := C.opnd hx
  have vy := C.opnd hy
  generalize evA tm cc = X at vc h
  generalize hq : a.eval c = cvc at vc
  unfold decK at h
  cases vc <;> (try simp only at h) <;> try (cases h; done)
  case bool b =>
    cases b with
    | true =>
      obtain ⟨rfl, rfl⟩ := ok_inj h
      exact ⟨Mono.refl _, fun w iv _ _ => ⟨a.eval x, w, R, .inl (by simp [execOp, hq, asBool]), vx, Step.refl iv _ _⟩⟩
    | false =>
      obtain ⟨rfl, rfl⟩ := ok_inj h
      exact ⟨Mono.refl _, fun w iv _ _ => ⟨a.eval y, w, R, .inl (by simp [execOp, hq, asBool]), vy, Step.refl iv _ _⟩⟩
  case sbool s b hb =>
    obtain ⟨hp, nx, lo, sc, tr⟩ := st
    cases sc with
    | nil => simp only at h; cases h
    | cons d sc =>
      simp only at h
      cases d with
      | true =>
        obtain ⟨rfl, rfl⟩ := ok_inj h
        refine ⟨⟨Nat.le_refl _, Nat.le_refl _, [_], rfl⟩, fun w iv _ hcd => ?_⟩
        have := hcd (s, true) (by simp)
        simp only [hb] at this
        subst this
        exact ⟨a.eval x, w, R, .inl (by simp [execOp, hq, asBool]), vx, Step.refl iv _ _⟩
      | false =>
        obtain ⟨rfl, rfl⟩ := ok_inj h
        refine ⟨⟨Nat.le_refl _, Nat.le_refl _, [_], rfl⟩, fun w iv _ hcd => ?_⟩
        have := hcd (s, false) (by simp)
        simp only [hb] at this
        subst this
        exact ⟨a.eval y, w, R, .inl (by simp [execOp, hq, asBool]), vy, Step.refl iv _ _⟩
theorem map_one {α β : Type} (f : α → β) (x : α) : #[x].map f = #[f x] := by simp
theorem map_two {α β : Type} (f : α → β) (x y : α) : #[x, y].map f = #[f x, f y] := by simp
theorem builtin_ok (C : Ctx ρ R E σ N tm a) {b : Builtin} {argTypes : Array TypeId} {args : Array Operand} {ca : List CA} (ha : cOpnds E σ args = some ca) {co : CO} (hc : cBuiltin P b argTypes ca = some co) (hcl : opClass co ≠ 0) (h : evOp co tm st call = .ok (v, st')) :
    BiOK P ρ R b argTypes ty (args.map a.eval) st st' v := by
  unfold cBuiltin at hc
  split at hc
  ·
    obtain ⟨x, y, rfl, hx, hy⟩ := args2 ha
    rw [map_two]
    obtain ⟨t, ht, hc⟩ := bind_some hc
    obtain ⟨u, hu, hc⟩ := bind_some hc
    obtain ⟨ut, hut, hc⟩ := bind_some hc
    obtain ⟨uu, huu, hc⟩ := bind_some hc
    split at hc <;> try (cases hc; done)
    rename_i e _ hne
    obtain ⟨z, hz, hc⟩ := bind_some hc
    obtain ⟨n, hn, hc⟩ := bind_some hc
    obtain ⟨bw, hbw, hc⟩ := bind_some hc
    split at hc
    · rename_i hcond
      simp only [Option.some.injEq] at hc; subst hc
      simp only [Bool.and_eq_true, decide_eq_true_eq, beq_iff_eq] at hcond
      obtain ⟨i, zv, hi, hzv, hcv⟩ := zeroOf_some hz
      obtain ⟨i', hi', hin⟩ := sizeOfT_some hn
      obtain ⟨i'', hi'', hib⟩ := bytesOfT_some hbw
      have e1 : i' = i := by rw [hi] at hi'; injection hi' with e; exact e.symm
      have e2 : i'' = i := by rw [hi] at hi''; injection hi'' with e; exact e.symm
      subst e1; subst e2
      have vz : VRs ρ R z.cells zv.cells.toList := (cVal_ok 4 hcv).cells
      have hzl := vz.length
      simp only [Array.length_toList] at hzl
      simp only [evOp, opAppend, evAK_eq] at h
      have A : AppT P argTypes e i'' zv := ⟨⟨t, ht, hut⟩, ⟨u, uu, hu, huu, fun k hk => hne k hk⟩, hi, hzv, by omega⟩
      exact append_ok A hin hib (by omega) (C.opnd hx) (C.opnd hy) h
    · cases hc
  ·
    obtain ⟨y, rfl, hy⟩ := args1 ha
    rw [map_one]
    obtain ⟨t, ht, hc⟩ := bind_some hc
    obtain ⟨u, hu, hc⟩ := bind_some hc
    split at hc <;> (try (cases hc; done)) <;> try (simp only [Option.some.injEq] at hc; subst hc; exact absurd rfl hcl)
    · simp only [Option.some.injEq] at hc; subst hc
      simp only [evOp, opLenMap, evAK_eq] at h
      exact lenMap_ok ht hu (C.opnd hy) h
    · obtain ⟨u', hu', hc⟩ := bind_some hc
      split at hc <;> try (cases hc; done)
      simp only [Option.some.injEq] at hc; subst hc; exact absurd rfl hcl
  ·
    obtain ⟨t, ht, hc⟩ := bind_some hc
    obtain ⟨u, hu, hc⟩ := bind_some hc
    split at hc <;> try (cases hc; done)
    simp only [Option.some.injEq] at hc; subst hc; exact absurd rfl hcl
  ·
    obtain ⟨x, y, rfl, hx, hy⟩ := args2 ha
    rw [map_two]
    obtain ⟨t, ht, hc⟩ := bind_some hc
    obtain ⟨u, hu, hc⟩ := bind_some hc
    split at hc <;> try (cases hc; done)
    obtain ⟨n, hn, hc⟩ := bind_some hc
    simp only [Option.some.injEq] at hc; subst hc
    simp only [evOp, opCopy, evAK_eq] at h
    exact copy_ok ht hu hn (C.opnd hx) (C.opnd hy) h
  ·
    obtain ⟨x, y, rfl, hx, hy⟩ := args2 ha
    rw [map_two]
    obtain ⟨t, ht, hc⟩ := bind_some hc
    obtain ⟨u, hu, hc⟩ := bind_some hc
    split at hc <;> try (cases hc; done)
    obtain ⟨s, hs, hc⟩ := bind_some hc
    simp only [Option.some.injEq] at hc; subst hc
    simp only [evOp, opDelete, evAK_eq] at h
    split at h
    · rename_i hks
      exact delete_ok ht hu hs (C.opnd hx) (C.opnd hy) hks h
    · cases h
  ·
    obtain ⟨x, rfl, hx⟩ := args1 ha
    rw [map_one]
    obtain ⟨t, ht, hc⟩ := bind_some hc
    obtain ⟨u, hu, hc⟩ := bind_some hc
    split at hc <;> try (cases hc; done)
    · simp only [Option.some.injEq] at hc; subst hc
      simp only [evOp, opClear, evAK_eq] at h
      exact clear_map_ok ht hu (C.opnd hx) h
    · obtain ⟨z, hz, hc⟩ := bind_some hc
      obtain ⟨n, hn, hc⟩ := bind_some hc
      split at hc
      · rename_i hzl
        simp only [Option.some.injEq] at hc; subst hc
        simp only [evOp, opClear, evAK_eq] at h
        exact clear_slice_ok ht hu hz hn (by simpa using hzl) (C.opnd hx) h
      · cases hc
  · simp only [Option.some.injEq] at hc; subst hc; exact absurd rfl hcl
  · simp only [Option.some.injEq] at hc; subst hc; exact absurd rfl hcl
  · simp only [Option.some.injEq] at hc; subst hc; exact absurd rfl hcl
  ·
    obtain ⟨x, y, rfl, hx, hy⟩ := args2 ha
    rw [map_two]
    obtain ⟨t, ht, hc⟩ := bind_some hc
    obtain ⟨u, hu, hc⟩ := bind_some hc
    split at hc <;> try (cases hc; done)
    obtain ⟨u', hu', hc⟩ := bind_some hc
    split at hc <;> try (cases hc; done)
    obtain ⟨n, hn, hc⟩ := bind_some hc
    split at hc <;> try (cases hc; done)
    rename_i h1
    simp only [Option.some.injEq] at hc; subst hc
    simp only [evOp, opUnsafeStr, evAK_eq] at h
    have : n = 1 := by simpa using h1
    subst this
    exact unsafeStr_ok (u := t) ht hu hn (C.opnd hx) (C.opnd hy) h
  · cases hc
theorem op_ok (C : Ctx ρ R E σ N tm a) {o : Oper} {co : CO} (hc : cOp P E σ o = some co) (hnc : ∀ c, o.op = .call c → ∀ x, c.callee ≠ .value x) (h : evOp co tm st call = .ok (v, st')) : OpOK P ρ R a o st st' v := by
  obtain ⟨dst, op, ty, pos, af, g⟩ := o
  cases op
  case move x =>
    simp only [cOp] at hc
    obtain ⟨cx, hx, hc⟩ := bind_some hc
    simp only [Option.some.injEq] at hc; subst hc
    obtain ⟨e, hv⟩ := mv_ok C hx h
    exact PureOK.op ⟨e, _, fun w => rfl, hv⟩
  case assign x =>
    simp only [cOp] at hc
    obtain ⟨cx, hx, hc⟩ := bind_some hc
    simp only [Option.some.injEq] at hc; subst hc
    obtain ⟨e, hv⟩ := mv_ok C hx h
    exact PureOK.op ⟨e, _, fun w => rfl, hv⟩
  case pick c x y => exact pick_ok C hc h
  case alloc t => exact (newc_ok C hc h).op
  case box t x => exact (box_ok C hc h).op
  case build t ps => exact (build_ok C (by simpa only [cOp] using hc) h).op
  case buildSlice t n ps => exact (buildSlice_ok C hc h).op
  case insert t m k x => exact (insert_ok C hc h).op
  case load t x => exact (load_ok C hc h).op
  case store t x y => exact (store_ok C hc h).op
  case ready => simp [cOp] at hc
  case waits => simp [cOp] at hc
  case nilCheck x =>
    simp only [cOp] at hc
    obtain ⟨cx, hx, hc⟩ := bind_some hc
    simp only [Option.some.injEq] at hc; subst hc
    exact (nilCheck_ok C hx h).op
  case binOp op t x y yt => exact (cBin_ok C (by simpa only [cOp] using hc) h).op
  case unOp op t x =>
    simp only [cOp] at hc
    obtain ⟨cx, hx, hc⟩ := bind_some hc
    simp only [Option.some.injEq] at hc; subst hc
    exact (un_ok C hx h).op
  case convert s d x =>
    by_cases hcl : opClass co = 0
    · exact (convPure_ok C (by simpa only [cOp] using hc) hcl h).op
    · exact (conv_ok C (by simpa only [cOp] using hc) hcl h).op
  case sliceToArrayPointer => simp [cOp] at hc
  case makeInterface t x => exact (mkIface_ok C hc h).op
  case makeFunc fn x y =>
    cases fn <;> simp only [cOp] at hc <;> try (cases hc; done)
    obtain ⟨cx, hx, hc⟩ := bind_some hc
    obtain ⟨cy, hy, hc⟩ := bind_some hc
    simp only [Option.some.injEq] at hc; subst hc
    exact (mkFunc_ok C hx hy h).op
  case makeMap t r => exact (mkMap_ok hc h).op
  case makeChan => simp [cOp] at hc
  case makeSlice t l c => exact (mkSlice_ok C hc h).op
  case slice t x l h' m =>
    by_cases hcl : opClass co = 0
    · exact (slice_ok C hc hcl h).op
    · refine (sliceArr_ok C hc ?_ h).op
      simp only [cOp] at hc
      obtain ⟨_, _, hc⟩ := bind_some hc
      obtain ⟨_, _, hc⟩ := bind_some hc
      obtain ⟨_, _, hc⟩ := bind_some hc
      obtain ⟨_, _, hc⟩ := bind_some hc
      obtain ⟨u, _, hc⟩ := bind_some hc
      cases u <;> simp only at hc <;> try (cases hc; done)
      case string =>
        split at hc
        · cases hc
        · simp only [Option.some.injEq] at hc; subst hc; exact absurd rfl hcl
      case slice e =>
        obtain ⟨_, _, hc⟩ := bind_some hc
        simp only [Option.some.injEq] at hc; subst hc; exact absurd rfl hcl
      case array n e =>
        obtain ⟨_, _, hc⟩ := bind_some hc
        simp only [Option.some.injEq] at hc; subst hc; rfl
      case pointer arr =>
        obtain ⟨u', _, hc⟩ := bind_some hc
        cases u' <;> simp only at hc <;> try (cases hc; done)
        split at hc
        · cases hc
        · obtain ⟨_, _, hc⟩ := bind_some hc
          simp only [Option.some.injEq] at hc; subst hc; rfl
  case fieldAddr s x i => exact (fieldAddr_ok C hc h).op
  case field s x i => exact (field_ok C hc h).op
  case indexAddr t x i => exact (idxAddr_ok C hc h).op
  case index t x i => exact (idx_ok C hc h).op
  case lookup t m k ok => exact (cLookup_ok C hc h).op
  case mapUpdate t m k x => exact (mapUpd_ok C hc h).op
  case mapEntry => simp [cOp] at hc
  case entryStore => simp [cOp] at hc
  case range t x => exact (range_ok C hc h).op
  case next x s => exact (next_ok C hc h).op
  case entry x => exact (entry_ok C hc h).op
  case typeAssert x t t' ok => exact (tyAssert_ok C hc h).op
  case extract x i =>
    simp only [cOp] at hc
    obtain ⟨cx, hx, hc⟩ := bind_some hc
    simp only [Option.some.injEq] at hc; subst hc
    exact (extract_ok C hx h).op
  case call c =>
    obtain ⟨callee, args, argTypes⟩ := c
    simp only [cOp] at hc
    obtain ⟨ca, ha, hc⟩ := bind_some hc
    cases callee with
    | value f => exact absurd rfl (hnc _ rfl f)
    | invoke r m => simp only at hc; cases hc
    | builtin b =>
      simp only at hc
      by_cases hcl : opClass co = 0
      · obtain ⟨e, cv, h1, h2⟩ := cBuiltin_pure (ty := ty) C ha hc hcl h
        exact PureOK.op ⟨e, cv, fun w => by rw [run_builtin]; exact h1 w _, h2⟩
      · exact (builtin_ok C ha hc hcl h).op
  case go => simp [cOp] at hc
  case defer => simp [cOp] at hc
  case panic => simp [cOp] at hc
  case send => simp [cOp] at hc
  case recv => simp [cOp] at hc
  case select => simp [cOp] at hc
end
end Go.Ab

namespace Go.Ab
def Upon (P : Program) (K : Value → World → Prop) : Result Next → Prop
  | .ok (.value v) w => K v w
  | .ok (.enter f args) w => CallsIn Fence.wide 0 P f args w fun e w' => ∃ v, e = .returned v ∧ K v w'
  | .ok (.round l f tmps assign body) w => RoundIn Fence.wide 0 P l f tmps assign body w fun e w' => ∃ v, e = .returned v ∧ K v w'
  | _ => False
theorem Upon.mono {P : Program} {K K' : Value → World → Prop} (h : ∀ v w, K v w → K' v w) {r : Result Next} (u : Upon P K r) : Upon P K' r := by
  unfold Upon at *
  split at u
  · exact h _ _ u
  · exact u.mono fun e w' ⟨v, a, b⟩ => ⟨v, a, h _ _ b⟩
  · exact u.mono fun e w' ⟨v, a, b⟩ => ⟨v, a, h _ _ b⟩
  · exact u.elim
inductive FnR (R : Inj) : AFn → Fn → Prop
  | func (f : Nat) : FnR R (.func f) (.func f)
  | yield (id : Nat) (l : Loc) (h : R id = some l) : FnR R (.yield id) (.yield l.b)
def target : Fn → Array Value → Sem Next
  | .func f, args => callFunc f args
  | .yield l, args => Instr.yield l args
  | _, _ => stuck ""
def Glob (R : Inj) : Prop := ∀ g, g < 100 → ∃ room, R g = some ⟨g, 0, room⟩
theorem Glob.mono {R R' : Inj} (g : Glob R) (h : Ext R R') : Glob R' := fun i hi => let ⟨r, e⟩ := g i hi; ⟨r, h _ _ e⟩
structure InvW (P : Program) (ρ : Nat → Int) (R : Inj) (st : St) (w : World) : Prop where
  inv : Inv P ρ R st.heap w
  wf : ∀ id, st.next ≤ id → st.heap.get id = none
theorem Step.toW {P : Program} {ρ : Nat → Int} {R R' : Inj} {st st' : St} {w w' : World} {low : Nat} (s : Step P ρ R st.heap w R' st'.heap w' low st.next st'.next) (iv : InvW P ρ R st w) (hn : st.next ≤ st'.next) : InvW P ρ R' st' w' := ⟨s.inv, fun id hid => s.dom id (iv.wf id (Nat.le_trans hn hid)) fun c => Nat.lt_irrefl _ (Nat.lt_of_lt_of_le c.2 hid)⟩
structure CallSound (P : Program) (ρ : Nat → Int) (call : CallV) : Prop where
  mono : ∀ fn args st v st', call fn args st = .ok (v, st') → Mono st st'
  run : ∀ fn args st v st', call fn args st = .ok (v, st') → ∀ R w cfn cargs, FnR R fn cfn → VRs ρ R args cargs.toList → Glob R → InvW P ρ R st w → Fresh R st.next st'.next → Conds ρ st'.tr →
    Upon P (fun cv w' => ∃ R', VR ρ R' v cv ∧ Step P ρ R st.heap w R' st'.heap w' st'.low st.next st'.next) ((target cfn cargs).run P w)
def Wide (F : Fence) : Prop := F = Fence.wide ∨ ∃ l, F = Fence.wide.inRound l
section
variable {P : Program} {ρ : Nat → Int} {R : Inj} {E : T Unit} {σ : Sub} {N : Nat} {tm : T AV} {a : Act} {st st' : St} {v : AV} {call : CallV} {h : T AObj} {w : World}
theorem Wide.calls {F : Fence} (hF : Wide F) {n : Nat} {f : FuncId} {args : Array Value} {K K' : Ending → World → Prop} (h : CallsIn Fence.wide 0 P f args w K) (hk : ∀ e w, K e w → K' e w) : CallsIn F n P f args w K' := by
  have h1 : CallsIn Fence.wide n P f args w K' := (h.mono hk).more (Nat.zero_le _)
  rcases hF with rfl | ⟨l, rfl⟩
  · exact h1
  · exact h1
theorem Wide.round {F : Fence} (hF : Wide F) {n : Nat} {l : Nat} {f : FuncId} {tmps : Array Value} {x y : Code} {K K' : Ending → World → Prop} (h : RoundIn Fence.wide 0 P l f tmps x y w K) (hk : ∀ e w, K e w → K' e w) : RoundIn F n P l f tmps x y w K' := by
  have h1 : RoundIn Fence.wide n P l f tmps x y w K' := ⟨h.1, fun c cs _ => (h.mono hk).2 c cs (room_wide _)⟩
  rcases hF with rfl | ⟨l, rfl⟩
  · exact h1
  · exact h1
theorem Wide.fn {F : Fence} (hF : Wide F) (f : FuncId) : F.fn f := by
  rcases hF with rfl | ⟨l, rfl⟩ <;> trivial
theorem Wide.depth {F : Fence} (hF : Wide F) : F.depth = none := by
  rcases hF with rfl | ⟨l, rfl⟩ <;> rfl
theorem Upon.uponIn {F : Fence} (hF : Wide F) {n : Nat} {o : Oper} {next : Act → World → Prop} {Q : Exit → Act → World → Prop} {K : Value → World → Prop} (hK : ∀ v w, K v w → next (a.put o.dst v) w) {r : Result Next} (u : Upon P K r) : o.uponIn F n P a next Q r := by
  unfold Upon at u
  split at u
  · exact hK _ _ u
  · refine ⟨fun h => (by rw [hF.depth] at h; cases h), hF.calls u ?_⟩
    rintro e w' ⟨v, rfl, hk⟩
    exact hK _ _ hk
  · refine ⟨fun h => (by rw [hF.depth] at h; cases h), hF.round u ?_⟩
    rintro e w' ⟨v, rfl, hk⟩
    exact hK _ _ hk
  · exact u.elim
theorem cOp_no_defer {o : Oper} {co : CO} (hc : cOp P E σ o = some co) : ∀ c, o.op ≠ .defer c := by
  intro c e
  simp [cOp, e] at hc
theorem VRs.arr {l : List AV} {c : Array Value} {m : List Value} (h : VRs ρ R l m) (e : c.toList = m) : VRs ρ R l c.toList := by rw [e]; exact h
theorem call_run (CS : CallSound P ρ call) (C : Ctx ρ R E σ N tm a) {dst : Option Tmp} {ty : TypeId} {pos : String} {af : Array Edge} {g : Option (Nat × Bool)} {f : Operand} {args : Array Operand} {argTypes : Array TypeId} {co : CO}
    (hc : cOp P E σ ⟨dst, .call ⟨.value f, args, argTypes⟩, ty, pos, af, g⟩ = some co) (h : evOp co tm st call = .ok (v, st')) :
    Mono st st' ∧ ∀ w, InvW P ρ R st w → Fresh R st.next st'.next → Conds ρ st'.tr →
    Upon P (fun cv w' => ∃ R', VR ρ R' v cv ∧ Step P ρ R st.heap w R' st'.heap w' st'.low st.next st'.next) ((execOp a.eval ⟨dst, .call ⟨.value f, args, argTypes⟩, ty, pos, af, g⟩).run P w) := by
  simp only [cOp] at hc
  obtain ⟨ca, ha, hc⟩ := bind_some hc
  have va : VRs ρ R (evAs tm ca) (args.map a.eval).toList := by
    have := C.opnds ha
    simpa using this
  have gen : ∀ cf, cOpnd E σ f = some cf → evOp (.callV cf ca) tm st call = .ok (v, st') → Mono st st' ∧ ∀ w, InvW P ρ R st w → Fresh R st.next st'.next → Conds ρ st'.tr →
      Upon P (fun cv w' => ∃ R', VR ρ R' v cv ∧ Step P ρ R st.heap w R' st'.heap w' st'.low st.next st'.next) ((execOp a.eval ⟨dst, .call ⟨.value f, args, argTypes⟩, ty, pos, af, g⟩).run P w) := by
    intro cf hcf h
    simp only [evOp, opCallV, evAK_eq, evAsK_eq] at h
    have vf := C.opnd hcf
    generalize evA tm cf = X at vf h
    generalize hq : a.eval f = cvf at vf
    cases vf <;> (try simp only at h) <;> try (cases h; done)
    case func n first captured fs cs h1 h2 =>
      refine ⟨CS.mono _ _ _ _ _ h, fun w iv hf hcd => ?_⟩
      have := CS.run _ _ _ _ _ h R w (.func n) (fs ++ (args.map a.eval ++ cs)) (.func n) (by simpa using VRs.append h1 (VRs.append va h2)) C.glob iv hf hcd
      have e : (execOp a.eval ⟨dst, .call ⟨.value f, args, argTypes⟩, ty, pos, af, g⟩).run P w = (target (.func n) (fs ++ (args.map a.eval ++ cs))).run P w := by
        simp only [execOp, resolve, hq, Deferred.ofValue, Sem.run_bind, Sem.run_pure, Result.andThen_ok, invoke, target]
        simp [Array.append_assoc]
      rw [e]; exact this
    case yield id l hR =>
      refine ⟨CS.mono _ _ _ _ _ h, fun w iv hf hcd => ?_⟩
      have := CS.run _ _ _ _ _ h R w (.yield l.b) (args.map a.eval) (.yield id l hR) (by simpa using va) C.glob iv hf hcd
      have e : (execOp a.eval ⟨dst, .call ⟨.value f, args, argTypes⟩, ty, pos, af, g⟩).run P w = (target (.yield l.b) (args.map a.eval)).run P w := by
        simp only [execOp, resolve, hq, Deferred.ofValue, Sem.run_bind, Sem.run_pure, Result.andThen_ok, invoke, target]
        simp
      rw [e]; exact this
  cases f
  case func n _ =>
    simp only [Option.some.injEq] at hc; subst hc
    simp only [evOp, opCall, evAsK_eq] at h
    refine ⟨CS.mono _ _ _ _ _ h, fun w iv hf hcd => ?_⟩
    have := CS.run _ _ _ _ _ h R w (.func n) (args.map a.eval) (.func n) va C.glob iv hf hcd
    have e : (execOp a.eval ⟨dst, .call ⟨.value (.func n), args, argTypes⟩, ty, pos, af, g⟩).run P w = (target (.func n) (args.map a.eval)).run P w := by
      simp only [execOp, resolve, Act.eval, Deferred.ofValue, Sem.run_bind, Sem.run_pure, Result.andThen_ok, invoke, target]
      simp
    rw [e]; exact this
  all_goals
    simp only at hc
    obtain ⟨cf, hcf, hc⟩ := bind_some hc
    simp only [Option.some.injEq] at hc; subst hc
    exact gen cf hcf h
theorem op_run (CS : CallSound P ρ call) (C : Ctx ρ R E σ N tm a) {o : Oper} {co : CO} (hc : cOp P E σ o = some co) (h : evOp co tm st call = .ok (v, st')) :
    Mono st st' ∧ ∀ w, InvW P ρ R st w → Fresh R st.next st'.next → Conds ρ st'.tr → ∀ (K : Value → World → Prop),
      (∀ cv w' R', VR ρ R' v cv → Step P ρ R st.heap w R' st'.heap w' st'.low st.next st'.next → K cv w') →
      Upon P K ((execOp a.eval o).run P w) ∨ ((∃ w', (execOp a.eval o).run P w = .ok .skip w' ∧ K Go.undef w')) := by
  have main : (∀ c, o.op = .call c → ∀ x, c.callee ≠ .value x) → Mono st st' ∧ ∀ w, InvW P ρ R st w → Fresh R st.next st'.next → Conds ρ st'.tr → ∀ (K : Value → World → Prop),
      (∀ cv w' R', VR ρ R' v cv → Step P ρ R st.heap w R' st'.heap w' st'.low st.next st'.next → K cv w') →
      Upon P K ((execOp a.eval o).run P w) ∨ ((∃ w', (execOp a.eval o).run P w = .ok .skip w' ∧ K Go.undef w')) := by
    intro hnc
    have m := op_ok C hc hnc h
    refine ⟨m.mono, fun w iv hf hcd K hK => ?_⟩
    obtain ⟨cv, w', R', hr, hv, hs⟩ := m.run w iv.inv hf hcd
    rcases hr with hr | ⟨hr, rfl⟩
    · exact .inl (by rw [hr]; exact hK _ _ _ hv hs)
    · exact .inr ⟨w', hr, hK _ _ _ hv hs⟩
  obtain ⟨dst, op, ty, pos, af, g⟩ := o
  by_cases hcall : ∃ f args argTypes, op = .call ⟨.value f, args, argTypes⟩
  · obtain ⟨f, args, argTypes, rfl⟩ := hcall
    obtain ⟨h1, h2⟩ := call_run CS C hc h
    exact ⟨h1, fun w iv hf hcd K hK => .inl ((h2 w iv hf hcd).mono fun cv w' ⟨R', a, b⟩ => hK _ _ _ a b)⟩
  · refine main fun c hop x hx => hcall ?_
    obtain ⟨callee, args, argTypes⟩ := c
    simp only at hop hx
    exact ⟨x, args, argTypes, by rw [hop, hx]⟩
theorem op_wp {F : Fence} (hF : Wide F) {n : Nat} (CS : CallSound P ρ call) (C : Ctx ρ R E σ N tm a) {o : Oper} {co : CO} (hc : cOp P E σ o = some co) (h : evOp co tm st call = .ok (v, st')) (iv : InvW P ρ R st w) (hf : Fresh R st.next st'.next) (hcd : Conds ρ st'.tr)
    {next : Act → World → Prop} {Q : Exit → Act → World → Prop} (hK : ∀ cv w' R', VR ρ R' v cv → Step P ρ R st.heap w R' st'.heap w' st'.low st.next st'.next → next (a.put o.dst cv) w') : o.wpIn F n P a w next Q := by
  refine ⟨fun f _ => hF.fn f, ?_⟩
  rw [Oper.semAt_eq _ _ _ (cOp_no_defer hc)]
  rcases (op_run CS C hc h).2 w iv hf hcd (fun cv w' => next (a.put o.dst cv) w') hK with h | ⟨w', h, hk⟩
  · exact h.uponIn hF fun _ _ hk => hk
  · rw [h]; exact hk
end
end Go.Ab

namespace Go.Ab
section
variable {P : Program} {ρ : Nat → Int} {R : Inj} {E : T Unit} {σ : Sub} {N : Nat} {tm : T AV} {a : Act} {st st' : St} {v : AV} {call : CallV} {h : T AObj} {w : World}
def SubAll (ρ : Nat → Int) (R : Inj) (σ : Sub) (tm : T AV) (tmps : Array Value) : Prop := ∀ p ∈ σ, VR ρ R (evA tm p.2) (tmps.getD p.1 Go.undef)
theorem Sub.find_mem {σ : Sub} {t : Nat} {x : CA} (h : σ.find t = some x) : (t, x) ∈ σ := by
  induction σ with
  | nil => cases h
  | cons p l ih =>
    obtain ⟨u, y⟩ := p
    simp only [Sub.find] at h
    split at h
    · rename_i hb
      have := beq_true hb
      injection h with h
      subst this; subst h
      exact List.mem_cons_self
    · exact List.mem_cons_of_mem _ (ih h)
theorem SubAll.ok {tmps : Array Value} (s : SubAll ρ R σ tm tmps) : SubOK ρ R E σ tm tmps := fun t x _ hf => s (t, x) (Sub.find_mem hf)
theorem Sub.mem_drop {σ : Sub} {d : Nat} {p : Nat × CA} (h : p ∈ σ.drop d) : p ∈ σ ∧ p.1 ≠ d ∧ p.2 ≠ .t d := by
  induction σ with
  | nil => cases h
  | cons q l ih =>
    obtain ⟨u, x⟩ := q
    simp only [Sub.drop] at h
    split at h
    · obtain ⟨a, b⟩ := ih h; exact ⟨List.mem_cons_of_mem _ a, b⟩
    · rename_i hu
      have hu' : u ≠ d := fun c => by rw [c, show Nat.beq d d = true from Nat.beq_refl d] at hu; cases hu
      split at h
      · rename_i t
        split at h
        · obtain ⟨a, b⟩ := ih h; exact ⟨List.mem_cons_of_mem _ a, b⟩
        · rename_i ht
          have ht' : t ≠ d := fun c => by rw [c, show Nat.beq d d = true from Nat.beq_refl d] at ht; cases ht
          cases h with
          | head => exact ⟨List.mem_cons_self, hu', fun c => ht' (by injection c)⟩
          | tail _ h => obtain ⟨a, b⟩ := ih h; exact ⟨List.mem_cons_of_mem _ a, b⟩
      · cases h with
        | head => exact ⟨List.mem_cons_self, hu', fun c => by cases c⟩
        | tail _ h => obtain ⟨a, b⟩ := ih h; exact ⟨List.mem_cons_of_mem _ a, b⟩
theorem getD_set_ne (t : Array Value) {d i : Nat} (v : Value) (h : i ≠ d) : (t.setIfInBounds d v).getD i Go.undef = t.getD i Go.undef := by
  simp only [Array.getD_eq_getD_getElem?]
  rw [Array.getElem?_setIfInBounds_ne (fun c => h c.symm)]
theorem getD_set_eq (t : Array Value) {d : Nat} (v : Value) (h : d < t.size) : (t.setIfInBounds d v).getD d Go.undef = v := by
  simp only [Array.getD_eq_getD_getElem?]
  rw [Array.getElem?_setIfInBounds_self_of_lt h]; rfl
theorem evA_set_ne {d : Nat} {v : AV} {x : CA} (h : x ≠ .t d) : evA (tm.set d v) x = evA tm x := by
  cases x with
  | v y => rfl
  | t i =>
    have : i ≠ d := fun c => h (by rw [c])
    simp only [evA, T.get_set, if_neg this]
theorem evA_set_eq {d : Nat} {v : AV} : evA (tm.set d v) (.t d) = v := by
  simp [evA, T.get_set]
theorem TR.set (t : TR ρ R E N tm a.tmps) {d : Nat} (hd : d < N) {v : AV} {cv : Value} (hv : VR ρ R v cv) : TR ρ R E N (tm.set d v) (a.put (some d) cv).tmps := by
  refine ⟨by simp [Act.put, t.size], fun i hi => ?_⟩
  by_cases e : i = d
  · subst e
    rw [evA_set_eq]
    simp only [Act.put]
    rw [getD_set_eq _ _ (by rw [t.size]; exact hd)]; exact hv
  · rw [evA_set_ne (fun c => e (by injection c))]
    simp only [Act.put]
    rw [getD_set_ne _ _ e]
    exact t.rel i hi
theorem TR.skip (t : TR ρ R E N tm a.tmps) {d : Nat} (hd : E.get d ≠ none) (cv : Value) : TR ρ R E N tm (a.put (some d) cv).tmps := by
  refine ⟨by simp [Act.put, t.size], fun i hi => ?_⟩
  have e : i ≠ d := fun c => hd (c ▸ hi)
  simp only [Act.put]
  rw [getD_set_ne _ _ e]
  exact t.rel i hi
theorem SubAll.set {tmps : Array Value} (s : SubAll ρ R σ tm tmps) (d : Nat) (v : AV) (cv : Value) : SubAll ρ R (σ.drop d) (tm.set d v) (tmps.setIfInBounds d cv) := by
  intro p hp
  obtain ⟨h1, h2, h3⟩ := Sub.mem_drop hp
  rw [evA_set_ne h3, getD_set_ne _ _ h2]
  exact s p h1
theorem SubAll.move {tmps : Array Value} (s : SubAll ρ R σ tm tmps) {d : Nat} (hd : d < tmps.size) {x : CA} {cv : Value} (hx : VR ρ R (evA tm x) cv) : SubAll ρ R ((d, x) :: σ.drop d) tm (tmps.setIfInBounds d cv) := by
  intro p hp
  cases hp with
  | head => rw [getD_set_eq _ _ hd]; exact hx
  | tail _ hp =>
    obtain ⟨h1, h2, _⟩ := Sub.mem_drop hp
    rw [getD_set_ne _ _ h2]
    exact s p h1
theorem SubAll.mono {R' : Inj} (h : Ext R R') {tmps : Array Value} (s : SubAll ρ R σ tm tmps) : SubAll ρ R' σ tm tmps := fun p hp => (s p hp).mono h
end
end Go.Ab

namespace Go.Ab
section
variable {P : Program} {ρ : Nat → Int} {R : Inj} {E : T Unit} {σ : Sub} {N : Nat} {tm : T AV} {a : Act} {st st' : St} {v : AV} {call : CallV} {h : T AObj} {w : World}
def wantOf (want : Bool) : AV → Option (Option SB × Bool)
  | .bool b => some (none, b == want)
  | .sbool s => some (some s, want)
  | _ => none
theorem yielded_eq {ops : Array Oper} {j : Nat} {t : Tmp} (h : (ops[j]?).bind (·.dst) = some t) (tmps : Array Value) : yielded ops tmps j = match tmps.getD t Go.undef with | .bool b => some b | _ => none := by
  unfold yielded
  rw [h, Array.getD_eq_getD_getElem?]
  simp only [Option.bind_some]
  cases tmps[t]? with
  | none => rfl
  | some v => cases v <;> rfl
structure SameSt (st st1 : St) : Prop where
  heap : st1.heap = st.heap
  next : st1.next = st.next
  low : st1.low = st.low
  mono : Mono st st1
theorem SameSt.refl (st : St) : SameSt st st := ⟨rfl, rfl, rfl, Mono.refl _⟩
theorem want_ok {β : Type} {ops : Array Oper} {gd : Option (Nat × Bool)} {cg : Option (CA × Bool)} (C : Ctx ρ R E σ N tm a) (hg : cGuard E σ ops gd = some cg) {K : Bool → St → M β} {r : β} (h : wantK cg tm st K = .ok r) :
    ∃ b st1, K b st1 = .ok r ∧ SameSt st st1 ∧ (Conds ρ st1.tr → ∀ o : Oper, o.guard = gd → Region.wanted o (yielded ops a.tmps) = b) := by
  unfold cGuard at hg
  split at hg
  · injection hg with hg; subst hg
    exact ⟨true, st, h, SameSt.refl _, fun _ o ho => by simp [Region.wanted, ho]⟩
  · rename_i j want
    split at hg
    · rename_i t hj
      split at hg
      · rename_i x hx
        injection hg with hg; subst hg
        simp only [wantK, evAK_eq] at h
        have vx : VR ρ R (evA tm x) (a.tmps.getD t Go.undef) := by
          unfold cTmp at hx
          split at hx
          · rename_i he
            injection hx with hx; subst hx
            exact C.tr.rel t he
          · rename_i he
            exact C.sub t x (by rw [he]; simp) hx
        have hy := yielded_eq hj a.tmps
        generalize evA tm x = X at vx h
        generalize a.tmps.getD t Go.undef = cv at vx hy
        have other : (∀ b, cv ≠ .bool b) → K false st = .ok r → ∃ b st1, K b st1 = .ok r ∧ SameSt st st1 ∧ (Conds ρ st1.tr → ∀ o : Oper, o.guard = some (j, want) → Region.wanted o (yielded ops a.tmps) = b) := by
          intro hb hk
          refine ⟨false, st, hk, SameSt.refl _, fun _ o ho => ?_⟩
          have : yielded ops a.tmps j = none := by rw [hy]; cases cv <;> first | rfl | exact absurd rfl (hb _)
          simp [Region.wanted, ho, this]
        cases vx
        case bool b =>
          refine ⟨b == want, st, h, SameSt.refl _, fun _ o ho => ?_⟩
          simp only [Region.wanted, ho, hy]
          cases b <;> cases want <;> rfl
        case sbool s b hs =>
          obtain ⟨hp, nx, lo, sc, tr⟩ := st
          simp only [wantV, decK] at h
          cases sc with
          | nil => simp only at h; cases h
          | cons d sc =>
            simp only at h
            refine ⟨d == want, _, h, ⟨rfl, rfl, rfl, ⟨Nat.le_refl _, Nat.le_refl _, [_], rfl⟩⟩, fun hcd o ho => ?_⟩
            have := hcd (s, d) (by simp)
            simp only [hs] at this
            subst this
            simp only [Region.wanted, ho, hy]
            cases b <;> cases want <;> rfl
        case any => cases h
        all_goals exact other (by intro b c; cases c) h
      · cases hg
    · cases hg
theorem evOps_nil (call : CallV) (tm : T AV) (st : St) : evOps call [] tm st = .ok (tm, st) := rfl
theorem evOps_cons (call : CallV) (o : COper) (l : List COper) (tm : T AV) (st : St) : evOps call (o :: l) tm st = evOps1 call o (evOps call l) tm st := rfl
theorem Fresh.sub {n n' m m' : Nat} (f : Fresh R n n') (h1 : n ≤ m) (h2 : m' ≤ n') : Fresh R m m' := fun id a b => f id (by omega) (by omega)
theorem Step.fresh {R' : Inj} {h' : T AObj} {w' : World} {low n n1 n2 : Nat} (s : Step P ρ R h w R' h' w' low n n1) (f : Fresh R n n2) (h1 : n1 ≤ n2) (h0 : n ≤ n1) : Fresh R' n1 n2 := by
  intro id a b
  rw [s.ext id (by omega)]
  exact f id (by omega) b
theorem oper_wp {F : Fence} (hF : Wide F) {n : Nat} (CS : CallSound P ρ call) {ops : Array Oper} {o : Oper} {anc : Nat} {rest : T AV → St → M (T AV × St)} {r : T AV × St} (C : Ctx ρ R E σ N tm a)
    (h : evOps1 call (cOper P E σ ops anc o) rest tm st = .ok r) :
    ∃ v st1, rest (putD tm o.dst v) st1 = .ok r ∧ Mono st st1 ∧ ∀ w, InvW P ρ R st w → Fresh R st.next st1.next → Conds ρ st1.tr → ∀ (next : Act → World → Prop) (Q : Exit → Act → World → Prop),
      (∀ cv w' R', VR ρ R' v cv → Step P ρ R st.heap w R' st1.heap w' st1.low st.next st1.next → next (a.put o.dst cv) w') →
      (if Region.wanted o (yielded ops a.tmps) then o.wpIn F n P a w next Q else (∀ f, o.about P w a.eval = some f → F.fn f) ∧ next (a.put o.dst Go.undef) w) := by
  unfold cOper at h
  cases hg : cGuard E σ ops o.guard with
  | none =>
    rw [hg] at h
    simp only [evOps1, wantK, evOp, opBad] at h
    cases h
  | some cg =>
    rw [hg] at h
    have hw : ∃ op, wantK cg tm st (fun b st => match b with
        | false => putK tm o.dst undef fun tm => rest tm st
        | true => match evOp op tm st call with
          | .ok (v, st) => putK tm o.dst v fun tm => rest tm st
          | .error e => .error e) = .ok r ∧ (cOp P E σ o = some op ∨ op = .bad (opTag o)) := by
      cases ho : cOp P E σ o with
      | some op => rw [ho] at h; exact ⟨op, h, .inl rfl⟩
      | none => rw [ho] at h; exact ⟨.bad (opTag o), h, .inr rfl⟩
    obtain ⟨op, hk, hop⟩ := hw
    obtain ⟨b, st1, hb, hs, hwant⟩ := want_ok C hg hk
    cases b with
    | false =>
      simp only [putK_eq] at hb
      refine ⟨undef, st1, hb, hs.mono, fun w iv hf hcd next Q hK => ?_⟩
      rw [hwant hcd o rfl]
      simp only [Bool.false_eq_true, if_false]
      refine ⟨fun f _ => hF.fn f, hK _ w R VR.undef ?_⟩
      rw [hs.heap, hs.next]
      exact Step.refl iv.inv _ _
    | true =>
      simp only at hb
      split at hb
      · rename_i v st2 hev
        simp only [putK_eq] at hb
        rcases hop with hop | rfl
        · have hm := (op_run CS C hop hev).1
          refine ⟨v, st2, hb, hs.mono.trans hm, fun w iv hf hcd next Q hK => ?_⟩
          rw [hwant (hm.conds hcd) o rfl]
          simp only [if_true]
          refine op_wp hF CS C hop hev ⟨by rw [hs.heap]; exact iv.inv, by rw [hs.heap, hs.next]; exact iv.wf⟩ (by rw [hs.next]; exact hf) hcd fun cv w' R' hv hst => hK cv w' R' hv ?_
          rw [hs.heap, hs.next] at hst
          exact hst
        · simp only [evOp, opBad] at hev; cases hev
      · cases hb
end
end Go.Ab

namespace Go.Ab
def CallMono (call : CallV) : Prop := ∀ fn args st v st', call fn args st = .ok (v, st') → Mono st st'
section
variable {tm : T AV} {st st' : St} {v : AV} {call : CallV}
theorem ok_mono {w : AV} {s : St} (h : (Except.ok (w, s) : M (AV × St)) = .ok (v, st')) (m : Mono st s) : Mono st st' := (ok_inj h).2 ▸ m
theorem err_mono {s : String} (h : (err s : M (AV × St)) = .ok (v, st')) : Mono st st' := by cases h
theorem minmax_mono (lt : Bool) : ∀ (l : List AV) (x : AV), minmax lt st x l = .ok (v, st') → Mono st st' := by
  intro l
  induction l with
  | nil => intro x h; cases x <;> (simp only [minmax] at h; exact ok_mono h (Mono.refl _))
  | cons y l ih =>
    intro x h
    cases x <;> (try (simp only [minmax] at h)) <;> try (exact err_mono h)
    cases y <;> (try (simp only [minmax] at h)) <;> try (exact err_mono h)
    repeat' split at h
    all_goals first
      | exact ih _ h
      | exact err_mono h
theorem notA_mono {x : AV} (h : notA st x = .ok (v, st')) : Mono st st' := by
  unfold notA at h
  repeat' split at h
  all_goals first
    | exact ok_mono h (Mono.refl _)
    | exact err_mono h
theorem retEq_mono {b : Bool} {x : M AV} (h : retEq b st x = .ok (v, st')) : Mono st st' := by
  unfold retEq at h
  repeat' split at h
  all_goals first
    | (cases h; done)
    | exact ok_mono h (Mono.refl _)
    | exact err_mono h
theorem evBin_mono {op : BinOp} {x y : AV} (h : evBin op x y st = .ok (v, st')) : Mono st st' := by
  simp only [evBin, binInt, binSym, binStr, evStr, symBin, strAdd, retI, retB, forceN_eq, forceI_eq] at h
  repeat' split at h
  all_goals first
    | (cases h; done)
    | exact ok_mono h (Mono.refl _)
    | exact err_mono h
    | (simp only [forceN_eq, forceI_eq] at h; exact ok_mono h (Mono.refl _))
theorem pick_mono {X A B : AV} (h : (decK X st fun d st => match d with | true => .ok (A, st) | false => .ok (B, st) : M (AV × St)) = .ok (v, st')) : Mono st st' := by
  unfold decK at h
  cases X <;> (try simp only at h) <;> try (cases h; done)
  case bool b => cases b <;> exact ok_mono h (Mono.refl _)
  case sbool s =>
    obtain ⟨hp, nx, lo, sc, tr⟩ := st
    cases sc with
    | nil => simp only at h; cases h
    | cons d sc =>
      simp only at h
      cases d <;> exact ok_mono h ⟨Nat.le_refl _, Nat.le_refl _, [_], rfl⟩
theorem evOp_mono (cm : CallMono call) {co : CO} (h : evOp co tm st call = .ok (v, st')) : Mono st st' := by
  cases co
  case call f l => simp only [evOp, opCall, evAsK_eq] at h; exact cm _ _ _ _ _ h
  case callV f l =>
    simp only [evOp, opCallV, evAK_eq, evAsK_eq] at h
    split at h
    · exact cm _ _ _ _ _ h
    · cases h
  all_goals simp only [evOp, opMv, opPick, opNewc, opBox, opBuild, opBuildSlice, opLoad1, opLoadN, opStore, opNilCheck, opBin, opEql, opUn, opConvInt, opSame, opStrOfBytes, opBytesOfStr, opStrOfInt, opMkIface, opMkFunc, opMkMap, opMkSlice, opSliceStr, opSliceSl, opSliceArr, opFieldAddr, opField, opIdxAddrArr, opIdxAddrSl, opIdxArr, opIdxStr, opLookup, opMapUpd, opRange, opNext, opEntry, opExtract, opAppend, opCopy, opDelete, opClear, opLenStr, opLenSl, opLenArr, opLenMap, opCapSl, opMin, opMax, opSliceData, opUnsafeStr, opTyAssert, opUnsafeTo, opUnsafeFrom, evStrOfBytes, evLookup, evMapUpd, evAppend, evCopy, evDelete, evClear, evLenMap, evUnsafeStr, opBad, storeAt, copyTo, nextStr, nextMap, sliceOf, sliceNil, retFind, retI, retB, retL, appendNew, appendTo, evAK_eq, evAsK_eq, forceN_eq, forceI_eq, T.ofListK_eq, St.newK_eq, St.putK_eq] at h
  all_goals (repeat' split at h)
  all_goals first
    | (cases h; done)
    | exact err_mono h
    | exact ok_mono h (Mono.refl _)
    | exact ok_mono h (Mono.new _ _)
    | exact ok_mono h (Mono.put _ _ _)
    | exact ok_mono h ((Mono.kill _ _).trans (Mono.new _ _))
    | exact evBin_mono h
    | exact retEq_mono h
    | exact notA_mono h
    | exact minmax_mono _ _ _ h
    | skip
  all_goals exact pick_mono h
theorem decK_mono {β : Type} {X : AV} {K : Bool → St → M β} {r : β} (h : decK X st K = .ok r) : ∃ b st1, K b st1 = .ok r ∧ Mono st st1 := by
  unfold decK at h
  cases X <;> (try simp only at h) <;> try (cases h; done)
  case bool b => exact ⟨b, st, h, Mono.refl _⟩
  case sbool s =>
    obtain ⟨hp, nx, lo, sc, tr⟩ := st
    cases sc with
    | nil => simp only at h; cases h
    | cons d sc => exact ⟨d, _, h, ⟨Nat.le_refl _, Nat.le_refl _, [_], rfl⟩⟩
theorem wantK_mono {β : Type} {g : Option (CA × Bool)} {K : Bool → St → M β} {r : β} (h : wantK g tm st K = .ok r) : ∃ b st1, K b st1 = .ok r ∧ Mono st st1 := by
  unfold wantK at h
  split at h
  · exact ⟨true, st, h, Mono.refl _⟩
  · rename_i x want
    simp only [evAK_eq] at h
    unfold wantV at h
    split at h
    · exact ⟨_, st, h, Mono.refl _⟩
    · obtain ⟨b, st1, h1, h2⟩ := decK_mono h
      exact ⟨_, st1, h1, h2⟩
    · cases h
    · exact ⟨false, st, h, Mono.refl _⟩
theorem evOps1_mono (cm : CallMono call) {o : COper} {rest : T AV → St → M (T AV × St)} {r : T AV × St} (h : evOps1 call o rest tm st = .ok r) : ∃ tm1 st1, rest tm1 st1 = .ok r ∧ Mono st st1 := by
  obtain ⟨dst, op, g, anc⟩ := o
  simp only [evOps1] at h
  obtain ⟨b, st1, h1, h2⟩ := wantK_mono h
  cases b with
  | false => simp only [putK_eq] at h1; exact ⟨_, st1, h1, h2⟩
  | true =>
    simp only at h1
    split at h1
    · rename_i v st2 hev
      simp only [putK_eq] at h1
      exact ⟨_, st2, h1, h2.trans (evOp_mono cm hev)⟩
    · cases h1
theorem evOps_mono (cm : CallMono call) : ∀ (l : List COper) (tm : T AV) (st : St) (tm' : T AV) (st' : St), evOps call l tm st = .ok (tm', st') → Mono st st' := by
  intro l
  induction l with
  | nil =>
    intro tm st tm' st' h
    have h : (Except.ok (tm, st) : M (T AV × St)) = .ok (tm', st') := h
    simp only [Except.ok.injEq, Prod.mk.injEq] at h
    rw [h.2]; exact Mono.refl _
  | cons o l ih =>
    intro tm st tm' st' h
    obtain ⟨tm1, st1, h1, h2⟩ := evOps1_mono cm (rest := evOps call l) h
    exact h2.trans (ih _ _ _ _ h1)
end
end Go.Ab

namespace Go.Ab
section
variable {P : Program} {ρ : Nat → Int} {R : Inj} {E : T Unit} {σ : Sub} {N : Nat} {tm tm' : T AV} {a : Act} {st st' : St} {v : AV} {call : CallV} {h : T AObj} {w : World}
theorem Fresh.ext {n n' : Nat} {R' : Inj} {h h' : T AObj} {w' : World} {low : Nat} (s : Step P ρ R h w R' h' w' low n n') (f : Fresh R n n') : Ext R R' := s.mono f
theorem range'_cons (i k : Nat) : List.range' i (k + 1) = i :: List.range' (i + 1) k := rfl
theorem ops_wp {F : Fence} (hF : Wide F) {n : Nat} (CS : CallSound P ρ call) {ops : Array Oper} :
    ∀ (l : List Oper) (i : Nat) (σ : Sub) (tm : T AV) (st : St), ops.toList.drop i = l → evOps call (cOpers P E N ops σ l) tm st = .ok (tm', st') →
      Mono st st' ∧ ∀ (R : Inj) (a : Act) (w : World), TR ρ R E N tm a.tmps → SubAll ρ R σ tm a.tmps → Glob R → InvW P ρ R st w → Fresh R st.next st'.next → Conds ρ st'.tr →
        ∀ (Q : Exit → Act → World → Prop), (∀ a' w' R', TR ρ R' E N tm' a'.tmps → a'.defers = a.defers → Step P ρ R st.heap w R' st'.heap w' st'.low st.next st'.next → Q .normal a' w') →
        wpOpsIn F n P ops Q (List.range' i l.length) a w := by
  intro l
  induction l with
  | nil =>
    intro i σ tm st _ h
    simp only [cOpers, evOps_nil, Except.ok.injEq, Prod.mk.injEq] at h
    obtain ⟨rfl, rfl⟩ := h
    exact ⟨Mono.refl _, fun R a w t _ _ iv _ _ Q hQ => hQ a w R t rfl (Step.refl iv.inv _ _)⟩
  | cons o l ih =>
    intro i σ tm st hd h
    have hget : ops[i]? = some o := by
      have : (ops.toList.drop i)[0]? = some o := by rw [hd]; rfl
      simpa using this
    have hd' : ops.toList.drop (i + 1) = l := by
      have : (ops.toList.drop i).drop 1 = l := by rw [hd]; rfl
      rw [List.drop_drop] at this
      exact this
    have keep : ∀ σ', (∀ R v cv tmps, SubAll ρ R σ tm tmps → SubAll ρ R σ' (putD tm o.dst v) (match o.dst with | some d => tmps.setIfInBounds d cv | none => tmps)) →
        (∀ d, o.dst = some d → d < N) → evOps1 call (cOper P E σ ops 0 o) (evOps call (cOpers P E N ops σ' l)) tm st = .ok (tm', st') →
        Mono st st' ∧ ∀ (R : Inj) (a : Act) (w : World), TR ρ R E N tm a.tmps → SubAll ρ R σ tm a.tmps → Glob R → InvW P ρ R st w → Fresh R st.next st'.next → Conds ρ st'.tr →
          ∀ (Q : Exit → Act → World → Prop), (∀ a' w' R', TR ρ R' E N tm' a'.tmps → a'.defers = a.defers → Step P ρ R st.heap w R' st'.heap w' st'.low st.next st'.next → Q .normal a' w') →
          wpOpsIn F n P ops Q (List.range' i (l.length + 1)) a w := by
      intro σ' hσ hdN h
      refine ⟨evOps_mono CS.mono (cOper P E σ ops 0 o :: cOpers P E N ops σ' l) tm st _ _ h, fun R a w t sa gl iv hf hcd Q hQ => ?_⟩
      have C : Ctx ρ R E σ N tm a := ⟨t, sa.ok, gl⟩
      obtain ⟨v, st1, h1, hm, hrun⟩ := oper_wp (n := n) hF CS C h
      obtain ⟨hm2, hrest⟩ := ih (i + 1) σ' _ st1 hd' h1
      simp only [range'_cons, wpOpsIn, hget]
      refine hrun w iv (hf.sub (Nat.le_refl _) hm2.next) (hm2.conds hcd) _ Q fun cv w' R' hv hst => ?_
      have ext : Ext R R' := hst.mono (hf.sub (Nat.le_refl _) hm2.next)
      have t' : TR ρ R' E N (putD tm o.dst v) (a.put o.dst cv).tmps := by
        cases hd : o.dst with
        | none => exact t.mono ext
        | some d => exact (t.mono ext).set (hdN d hd) hv
      have sa' : SubAll ρ R' σ' (putD tm o.dst v) (a.put o.dst cv).tmps := by
        have := hσ R' v cv a.tmps (sa.mono ext)
        cases hd : o.dst with
        | none => rw [hd] at this; exact this
        | some d => rw [hd] at this; exact this
      refine hrest R' _ w' t' sa' (gl.mono ext) (hst.toW iv hm.next) (hst.fresh hf hm2.next hm.next) hcd Q fun a'' w'' R'' t'' d'' s'' => hQ a'' w'' R'' t'' ?_ (hst.trans s'' hm2.low hm.next hm2.next)
      rw [d'']; cases o.dst <;> rfl
    have bad : ∀ (c : COper) (rest : List COper), (∃ k, c.op = .bad k) → c.guard = none → evOps call (c :: rest) tm st ≠ .ok (tm', st') := by
      intro c rest hk hg hc
      obtain ⟨dst, op, g, anc⟩ := c
      obtain ⟨k, hk⟩ := hk
      simp only at hk hg
      subst hk; subst hg
      simp only [evOps_cons, evOps1, wantK, evOp, opBad] at hc
      cases hc
    simp only [List.length_cons]
    cases hdst : o.dst with
    | none =>
      simp only [cOpers, hdst] at h
      exact keep σ (fun R v cv tmps sa => by simp only [hdst, putD]; exact sa) (fun d hd => by rw [hdst] at hd; cases hd) h
    | some d =>
      simp only [cOpers, hdst] at h
      cases hlt : Nat.blt d N with
      | false => rw [hlt] at h; exact absurd h (bad _ _ ⟨_, rfl⟩ rfl)
      | true =>
        rw [hlt] at h; simp only at h
        have hdN := blt_true hlt
        cases hE : E.get d with
        | none =>
          rw [hE] at h; simp only at h
          exact keep (σ.drop d) (fun R v cv tmps sa => by simp only [hdst, putD]; exact sa.set d v cv) (fun d' hd => by rw [hdst] at hd; injection hd with hd; rw [← hd]; exact hdN) h
        | some _ =>
          rw [hE] at h; simp only at h
          cases hmv : cMove E σ o with
          | none => rw [hmv] at h; exact absurd h (bad _ _ ⟨_, rfl⟩ rfl)
          | some x =>
            rw [hmv] at h; simp only at h
            obtain ⟨hm, hrest⟩ := ih (i + 1) _ tm st hd' h
            refine ⟨hm, fun R a w t sa gl iv hf hcd Q hQ => ?_⟩
            obtain ⟨y, hy, hg, hrun, hnd⟩ : ∃ y, cOpnd E σ y = some x ∧ o.guard = none ∧ execOp a.eval o = pure (.value (a.eval y)) ∧ (∀ c, o.op ≠ .defer c) := by
              unfold cMove at hmv
              split at hmv
              · cases hmv
              · rename_i hg
                split at hmv
                · rename_i y ho; exact ⟨y, hmv, hg, by simp [execOp, ho], fun c e => by rw [ho] at e; cases e⟩
                · rename_i y ho; exact ⟨y, hmv, hg, by simp [execOp, ho], fun c e => by rw [ho] at e; cases e⟩
                · cases hmv
            have C : Ctx ρ R E σ N tm a := ⟨t, sa.ok, gl⟩
            have hv := C.opnd hy
            simp only [range'_cons, wpOpsIn, hget]
            rw [show Region.wanted o (yielded ops a.tmps) = true by simp [Region.wanted, hg]]
            simp only [if_true]
            refine ⟨fun f _ => hF.fn f, ?_⟩
            rw [Oper.semAt_eq _ _ _ hnd, hrun, Sem.run_pure, Oper.uponIn_value, hdst]
            have sa' : SubAll ρ R ((d, x) :: σ.drop d) tm (a.put (some d) (a.eval y)).tmps := sa.move (by rw [t.size]; exact hdN) hv
            exact hrest R _ w (t.skip (by rw [hE]; simp) _) sa' gl iv hf hcd Q fun a'' w'' R'' t'' d'' s'' => hQ a'' w'' R'' t'' d'' s''
end
end Go.Ab

namespace Go.Ab
def exOf : Ex → Exit
  | .normal => .normal
  | .exit i => .exit i
  | .ret => .ret
inductive Marks (R : Inj) : List Nat → List Deferred → Prop
  | nil : Marks R [] []
  | cons (r : Nat) (l : Loc) (mk : List Nat) (ds : List Deferred) (h : R r = some l) (hs : Marks R mk ds) : Marks R (r :: mk) ({ target := .collected l.b, args := #[] } :: ds)
theorem Marks.mono {R R' : Inj} (h : Ext R R') {mk : List Nat} {ds : List Deferred} (m : Marks R mk ds) : Marks R' mk ds := by
  induction m with
  | nil => exact .nil
  | cons r l mk ds e _ ih => exact .cons r l mk ds (h _ _ e) ih
def fenceOf : Option Nat → Fence
  | none => Fence.wide
  | some l => Fence.wide.inRound l
theorem fenceOf_wide (r : Option Nat) : Wide (fenceOf r) := by
  cases r with
  | none => exact .inl rfl
  | some l => exact .inr ⟨l, rfl⟩
def EvMono (rec : EvF) : Prop := ∀ rnd c tm mk st e tm' mk' st', rec rnd c tm mk st = .ok e tm' mk' st' → Mono st st'
def EvSound (P : Program) (ρ : Nat → Int) (rec : EvF) : Prop :=
  ∀ (E : T Unit) (N : Nat) (ro : Option Nat) (c : Code) tm mk st e tm' mk' st', rec ro.isSome (cCode P E N c) tm mk st = .ok e tm' mk' st' →
    ∀ (R : Inj) (a : Act) (w : World), TR ρ R E N tm a.tmps → Marks R mk a.defers → Glob R → InvW P ρ R st w → Fresh R st.next st'.next → Conds ρ st'.tr →
      ∀ (Q : Exit → Act → World → Prop), (∀ a' w' R', TR ρ R' E N tm' a'.tmps → Marks R' mk' a'.defers → Step P ρ R st.heap w R' st'.heap w' st'.low st.next st'.next → Q (exOf e) a' w') →
      c.wpIn (fenceOf ro) 0 P Q a w
end Go.Ab

namespace Go.Ab
structure DMono (s s' : DR) : Prop where
  next : s.next ≤ s'.next
  low : s'.low ≤ s.low
  tr : ∃ l, s'.tr = l ++ s.tr
theorem DMono.refl (s : DR) : DMono s s := ⟨Nat.le_refl _, Nat.le_refl _, [], rfl⟩
theorem DMono.trans {a b c : DR} (h : DMono a b) (h' : DMono b c) : DMono a c :=
  ⟨Nat.le_trans h.next h'.next, Nat.le_trans h'.low h.low, let ⟨l, e⟩ := h.tr; let ⟨l', e'⟩ := h'.tr; ⟨l' ++ l, by rw [e', e, List.append_assoc]⟩⟩
section
variable {call : CallV} {i : Nat} {o : COper} {s s' : DR} {v : AV}
theorem evAlloc_mono (cm : CallMono call) (h : evAlloc call i o s = .ok (v, s')) : DMono s s' := by
  unfold evAlloc at h
  split at h
  · cases h
  · rename_i v1 st1 he
    have m := evOp_mono cm he
    split at h
    · simp only [Except.ok.injEq, Prod.mk.injEq] at h
      obtain ⟨_, rfl⟩ := h
      exact ⟨m.next, Nat.le_refl _, m.tr⟩
    · cases h
theorem evMany_mono (cm : CallMono call) (h : evMany call i o s = .ok (v, s')) : DMono s s' := by
  unfold evMany at h
  split at h
  · cases h
  · rename_i v1 st1 he
    have m := evOp_mono cm he
    split at h
    · cases h
    · split at h
      · simp only [Except.ok.injEq, Prod.mk.injEq] at h
        obtain ⟨_, rfl⟩ := h
        exact ⟨m.next, Nat.le_refl _, m.tr⟩
      · split at h
        · cases h
        · simp only [Except.ok.injEq, Prod.mk.injEq] at h
          obtain ⟨_, rfl⟩ := h
          exact ⟨m.next, (lowered_le _ _).1, m.tr⟩
theorem evPureR_mono (cm : CallMono call) (h : evPureR call o s = .ok (v, s')) : DMono s s' := by
  unfold evPureR at h
  split at h
  · cases h
  · rename_i v1 st1 he
    have m := evOp_mono cm he
    simp only [Except.ok.injEq, Prod.mk.injEq] at h
    obtain ⟨_, rfl⟩ := h
    exact ⟨Nat.le_refl _, Nat.le_refl _, m.tr⟩
theorem evDrawOp_mono (cm : CallMono call) (h : evDrawOp call i o s = .ok (v, s')) : DMono s s' := by
  unfold evDrawOp at h
  split at h
  · exact evPureR_mono cm h
  · exact evAlloc_mono cm h
  · split at h
    · unfold evLoadR at h
      split at h
      · simp only [Except.ok.injEq, Prod.mk.injEq] at h
        obtain ⟨_, rfl⟩ := h
        exact ⟨Nat.le_refl _, Nat.le_refl _, [], rfl⟩
      · exact evMany_mono cm h
    · exact evMany_mono cm h
theorem evDraw_mono (cm : CallMono call) : ∀ (l : List COper) (i : Nat) (s s' : DR), evDraw call l i s = .ok s' → DMono s s' := by
  intro l
  induction l with
  | nil => intro i s s' h; simp only [evDraw, Except.ok.injEq] at h; subst h; exact DMono.refl _
  | cons o l ih =>
    intro i s s' h
    simp only [evDraw] at h
    obtain ⟨b, st1, h1, hm⟩ := wantK_mono h
    cases b with
    | false =>
      simp only [putK_eq] at h1
      have := ih _ _ _ h1
      exact ⟨this.next, this.low, let ⟨l1, e1⟩ := this.tr; let ⟨l2, e2⟩ := hm.tr; ⟨l1 ++ l2, by rw [e1, List.append_assoc]; exact congrArg _ e2⟩⟩
    | true =>
      simp only at h1
      split at h1
      · rename_i v s1 he
        simp only [putK_eq] at h1
        have m1 := evDrawOp_mono cm he
        have m2 := ih _ _ _ h1
        exact ⟨Nat.le_trans m1.next m2.next, Nat.le_trans m2.low m1.low, let ⟨l1, e1⟩ := m2.tr; let ⟨l2, e2⟩ := m1.tr; let ⟨l3, e3⟩ := hm.tr; ⟨l1 ++ (l2 ++ l3), by rw [e1]; simp only at e2 e3 ⊢; rw [e2, e3, List.append_assoc, List.append_assoc]⟩⟩
      · cases h1
theorem evDrawAll_mono (cm : CallMono call) {ops : List COper} {tm tm' : T AV} {st st' : St} (h : evDrawAll call ops tm st = .ok (tm', st')) : Mono st st' := by
  obtain ⟨hp, n, lo, sc, tr⟩ := st
  simp only [evDrawAll] at h
  split at h
  · cases h
  · rename_i s he
    have m := evDraw_mono cm _ _ _ _ he
    split at h
    · simp only [Except.ok.injEq, Prod.mk.injEq] at h
      obtain ⟨_, rfl⟩ := h
      exact ⟨m.next, m.low, m.tr⟩
    · cases h
end
end Go.Ab

namespace Go.Ab
section
variable {rec : EvF} {G : Env} {st st' : St} {v : AV}
theorem dropMarks_mono : ∀ (mk : List Nat) (st st' : St), dropMarks mk st = some st' → Mono st st' := by
  intro mk
  induction mk with
  | nil => intro st st' h; simp only [dropMarks, Option.some.injEq] at h; subst h; exact Mono.refl _
  | cons r l ih =>
    intro st st' h
    simp only [dropMarks] at h
    split at h
    · exact (Mono.kill _ _).trans (ih _ _ h)
    · cases h
theorem endCall_mono {cf : CFunc} {r : Res} {st0 : St} (hr : ∀ e tm mk st, r = .ok e tm mk st → Mono st0 st) (h : endCall cf r = .ok (v, st')) : Mono st0 st' := by
  unfold endCall at h
  split at h
  · cases h
  · rename_i e tm mk st
    split at h
    · cases h
    · split at h
      · cases h
      · rename_i st1 hd
        split at h
        · exact (hr _ _ _ _ rfl).trans ((dropMarks_mono _ _ _ hd).trans (ok_mono h (Mono.refl _)))
        · cases h
theorem callFn_mono (hrec : EvMono rec) (hov : ∀ f o args st v st', G.ov.get f = some o → o args st = .ok (v, st') → Mono st st') {f : Nat} {args : List AV} (h : callFn G rec f args st = .ok (v, st')) : Mono st st' := by
  unfold callFn at h
  split at h
  · rename_i o ho; exact hov _ _ _ _ _ _ ho h
  · split at h
    · cases h
    · simp only [callBody, T.ofListK_eq] at h
      split at h
      · exact endCall_mono (fun e tm mk st1 he => hrec _ _ _ _ _ _ _ _ _ he) h
      · cases h
theorem callRound_mono (hrec : EvMono rec) {l : Nat} {args : List AV} (h : callRound rec l args st = .ok (v, st')) : Mono st st' := by
  unfold callRound at h
  split at h
  · split at h
    · split at h
      · rename_i he1
        have m1 := hrec _ _ _ _ _ _ _ _ _ he1
        split at h
        · split at h
          · split at h
            · rename_i he2
              have m2 := hrec _ _ _ _ _ _ _ _ _ he2
              have m := m1.trans ((Mono.put _ _ _).trans m2)
              split at h
              · split at h
                · exact ok_mono h (m.trans (Mono.put _ _ _))
                · exact ok_mono h (m.trans (Mono.put _ _ _))
              · cases h
            · cases h
            · cases h
          · cases h
        · cases h
      · cases h
      · cases h
    · cases h
  · cases h
end
end Go.Ab

namespace Go.Ab
section
variable {rec : EvF} {G : Env} {st0 st st' : St} {v : AV} {tm tm' : T AV} {mk mk' : List Nat} {e : Ex}
def ResMono (st0 : St) (r : Res) : Prop := ∀ e tm mk st, r = .ok e tm mk st → Mono st0 st
theorem ResMono.ok (h : Mono st0 st) : ResMono st0 (.ok e tm mk st) := by
  intro e' tm' mk' st' he; injection he with _ _ _ h4; exact h4 ▸ h
theorem ResMono.bad (s : String) : ResMono st0 (.bad s) := by intro _ _ _ _ he; cases he
theorem ResMono.endOps {x : M (T AV × St)} (h : ∀ tm st, x = .ok (tm, st) → Mono st0 st) : ResMono st0 (Ab.endOps mk x) := by
  unfold Ab.endOps; split
  · exact .ok (h _ _ rfl)
  · exact .bad _
theorem ResMono.thenK {K : T AV → List Nat → St → Res} {r : Res} (h : ResMono st0 r) (hk : ∀ tm mk st, Mono st0 st → ResMono st0 (K tm mk st)) : ResMono st0 (thenK K r) := by
  unfold Ab.thenK; split
  · rename_i e tm mk st
    have m := h _ _ _ _ rfl
    split
    · exact hk _ _ _ m
    · exact .ok m
  · exact .bad _
theorem ResMono.endBlock {i : Nat} {r : Res} (h : ResMono st0 r) : ResMono st0 (endBlock i r) := by
  unfold Ab.endBlock; split
  · rename_i e tm mk st
    have m := h _ _ _ _ rfl
    split
    · split
      · exact .ok m
      · exact .ok m
    · exact .ok m
  · exact .bad _
theorem ResMono.decR {X : AV} {K : Bool → St → Res} (hk : ∀ b st1, Mono st st1 → ResMono st (K b st1)) : ResMono st (decR X st K) := by
  unfold Ab.decR
  split
  · exact hk _ _ (Mono.refl _)
  · split
    · exact hk _ _ ⟨Nat.le_refl _, Nat.le_refl _, [_], rfl⟩
    · exact .bad _
  · exact .bad _
theorem callAny_mono (hrec : EvMono rec) (hov : ∀ f o args st v st', G.ov.get f = some o → o args st = .ok (v, st') → Mono st st') : CallMono (callAny G rec) := by
  intro fn args st v st' h
  cases fn with
  | func f => exact callFn_mono hrec hov h
  | yield l => exact callRound_mono hrec h
theorem evStep_mono (hrec : EvMono rec) (hov : ∀ f o args st v st', G.ov.get f = some o → o args st = .ok (v, st') → Mono st st') : EvMono (evStep G rec) := by
  have cm := callAny_mono hrec hov
  have hr : ∀ rnd c tm mk st, ResMono st (rec rnd c tm mk st) := fun rnd c tm mk st e tm' mk' st' h => hrec _ _ _ _ _ _ _ _ _ h
  intro rnd c tm mk st
  have key : ResMono st (evStep G rec rnd c tm mk st) := by
    unfold evStep evCode
    cases c with
    | skip => exact .ok (Mono.refl _)
    | ret => exact .ok (Mono.refl _)
    | exit i => exact .ok (Mono.refl _)
    | region ops => exact .endOps fun tm st h => evOps_mono cm _ _ _ _ _ h
    | draw ops => exact .endOps fun tm st h => evDrawAll_mono cm h
    | seq a b => exact .thenK (hr _ _ _ _ _) fun tm mk st1 m e tm' mk' st' h => m.trans (hr _ _ _ _ _ _ _ _ _ h)
    | cond c a b =>
      simp only [cdCond, evAK_eq]
      refine .decR fun d st1 m => ?_
      cases d
      · exact fun e tm' mk' st' h => m.trans (hr _ _ _ _ _ _ _ _ _ h)
      · exact fun e tm' mk' st' h => m.trans (hr _ _ _ _ _ _ _ _ _ h)
    | block i b => exact .endBlock (hr _ _ _ _ _)
    | loop b => exact .thenK (hr _ _ _ _ _) fun tm mk st1 m e tm' mk' st' h => m.trans (hr _ _ _ _ _ _ _ _ _ h)
    | rangeFunc f ps a b =>
      unfold cdRange
      cases rnd with
      | true => exact .bad _
      | false =>
        simp only [evAK_eq]
        split
        · split
          · simp only [St.newK_eq]
            unfold endRange
            split
            · rename_i hc
              have m := callFn_mono hrec hov hc
              split
              · split
                · exact .ok ((Mono.new _ _).trans ((Mono.new _ _).trans (m.trans (Mono.kill _ _))))
                · exact .bad _
              · exact .bad _
            · exact .bad _
          · exact .bad _
        · exact .bad _
    | fail => exact .bad _
  exact fun e tm' mk' st' h => key e tm' mk' st' h
end
end Go.Ab

namespace Go.Ab
section
variable {P : Program} {ρ : Nat → Int} {R : Inj} {h : T AObj} {w : World}
theorem Step.free (i : Inv P ρ R h w) {id : Nat} {o : AObj} {l : Loc} {x : Obj} (ho : h.get id = some o) (hr : R id = some l) {low n : Nat} (hl : low ≤ id) :
    Step P ρ R h w R (h.del id) { w with heap := w.heap.setIfInBounds l.b x } low n n := by
  have hget : ∀ b, b ≠ l.b → (w.heap.setIfInBounds l.b x)[b]? = w.heap[b]? := fun b hb => Array.getElem?_setIfInBounds_ne (fun c => hb c.symm)
  have hex : ∀ k ok, (h.del id).get k = some ok → h.get k = some ok ∧ k ≠ id := by
    intro k ok hk; rw [T.get_del] at hk
    by_cases e : k = id
    · rw [if_pos e] at hk; cases hk
    · rw [if_neg e] at hk; exact ⟨hk, e⟩
  refine ⟨⟨fun j oj hj => ?_, fun a b oa ob la lb ha hb ra rb e => i.inj a b oa ob la lb (hex _ _ ha).1 (hex _ _ hb).1 ra rb e⟩, fun _ _ => rfl, by simp, fun b hb => ?_, fun j oj lj hj rj => .inl ⟨oj, (hex _ _ hj).1, rj⟩, rfl, rfl, rfl, fun j h0 _ => by rw [T.get_del]; split <;> first | rfl | exact h0⟩
  · obtain ⟨hj', hne⟩ := hex _ _ hj
    obtain ⟨l', x', e', hx', r'⟩ := i.live j oj hj'
    refine ⟨l', x', e', ?_, r'⟩
    rw [← hx']; exact hget _ fun c => hne (i.inj j id oj o l' l hj' ho e' hr c)
  · exact hget b fun c => hb (.inr ⟨id, o, l, hl, ho, hr, c.symm⟩)
end
theorem exists_min {p : Nat → Prop} : ∀ n, p n → ∃ m, p m ∧ ∀ k, p k → m ≤ k := by
  intro n
  induction n using Nat.strongRecOn with
  | _ n ih =>
    intro h
    by_cases hk : ∃ k, k < n ∧ p k
    · obtain ⟨k, hlt, hp⟩ := hk; exact ih k hlt hp
    · exact ⟨n, h, fun k hp => Nat.le_of_not_lt fun c => hk ⟨k, c, hp⟩⟩
open Classical in
theorem wpIn_loop_n {F : Fence} {n : Nat} {P : Program} {Q : Exit → Act → World → Prop} {c : Code} (J : Nat → Act → World → Prop)
    (round : ∀ m a w, J m a w → c.wpIn F n P (Exit.then (fun a' w' => ∃ m', m' < m ∧ J m' a' w') Q) a w) {m : Nat} {a : Act} {w : World} (h : J m a w) : (Code.loop c).wpIn F n P Q a w := by
  have mn : ∀ a w, (∃ m, J m a w) → ∃ m, J m a w ∧ ∀ k, J k a w → m ≤ k := fun a w ⟨m, hm⟩ => exists_min m hm
  let μ : Act → World → Nat := fun a w => if h : ∃ m, J m a w then (mn a w h).choose else 0
  have hμ : ∀ a w (h : ∃ m, J m a w), J (μ a w) a w ∧ ∀ k, J k a w → μ a w ≤ k := by
    intro a w h
    have := (mn a w h).choose_spec
    simp only [μ, dif_pos h]
    exact this
  refine wpIn_loop (fun a w => ∃ m, J m a w) μ ⟨m, h⟩ fun a w hI => ?_
  refine wpIn_mono (round _ a w (hμ a w hI).1) fun e a' w' hq => ?_
  cases e <;> try exact hq
  obtain ⟨m', hlt, hj⟩ := hq
  exact ⟨⟨m', hj⟩, Nat.lt_of_le_of_lt ((hμ a' w' ⟨m', hj⟩).2 m' hj) hlt⟩
section
variable {P : Program} {ρ : Nat → Int} {R : Inj} {h : T AObj} {w : World} {E : T Unit} {N : Nat} {tm : T AV} {a : Act}
def resOne (tmps : Array Value) : ResultVar → Sem Value
  | .tmp t => pure (tmps.getD t Go.undef)
  | .cell a t => do loadVar t (← asAddr (tmps.getD a Go.undef))
theorem results_eq (fn : Func) (tmps : Array Value) {l : List Value} (h : (fn.results.toList.mapM (resOne tmps)).run P w = .ok l w) : (results fn tmps).run P w = .ok (if h : l.length = 1 then l[0] else .tuple l.toArray) w := by
  have e : (results fn tmps) = (do let vs ← fn.results.mapM (resOne tmps); pure (if h : vs.size = 1 then vs[0] else .tuple vs)) := by
    unfold results
    congr 1
  rw [e, Array.mapM_eq_mapM_toList]
  simp [Sem.run_map, h]
theorem results_ok (t : TR ρ R E N tm a.tmps) (iv : Inv P ρ R h w) : ∀ {rs : List ResultVar} {cr : List CRes} {l : List AV}, cRes P E rs = some cr → evResults tm h cr = some l →
    ∃ vs, (rs.mapM (resOne a.tmps)).run P w = .ok vs w ∧ VRs ρ R l vs := by
  intro rs
  induction rs with
  | nil => intro cr l hc he; simp only [cRes, Option.some.injEq] at hc; subst hc; simp only [evResults, Option.some.injEq] at he; subst he; exact ⟨[], by simp, .nil⟩
  | cons r rs ih =>
    intro cr l hc he
    cases r with
    | tmp i =>
      simp only [cRes] at hc
      cases hE : E.get i with
      | some _ => rw [hE] at hc; cases hc
      | none =>
        rw [hE] at hc
        obtain ⟨cr', hc', hc⟩ := bind_some hc
        simp only [Option.some.injEq] at hc; subst hc
        simp only [evResults] at he
        cases hr : evResults tm h cr' with
        | none => rw [hr] at he; cases he
        | some l' =>
          rw [hr] at he; simp only [Option.some.injEq] at he; subst he
          obtain ⟨vs, hv, hr'⟩ := ih hc' hr
          exact ⟨_, by simp [List.mapM_cons, Sem.run_bind, resOne, hv], .cons _ _ _ _ (t.rel i hE) hr'⟩
    | cell i ty =>
      simp only [cRes] at hc
      cases hE : E.get i with
      | some _ => rw [hE] at hc; cases hc
      | none =>
        rw [hE] at hc
        obtain ⟨n, hn, hc⟩ := bind_some hc
        obtain ⟨cr', hc', hc⟩ := bind_some hc
        simp only [Option.some.injEq] at hc; subst hc
        simp only [evResults] at he
        cases hld : loadAt h (evA tm (.t i)) n with
        | none => rw [hld] at he; cases he
        | some v =>
          rw [hld] at he; simp only at he
          cases hr : evResults tm h cr' with
          | none => rw [hr] at he; cases he
          | some l' =>
            rw [hr] at he; simp only [Option.some.injEq] at he; subst he
            obtain ⟨vs, hv, hr'⟩ := ih hc' hr
            have vt := t.rel i hE
            obtain ⟨cv, hcv, hvr⟩ : ∃ cv, (resOne a.tmps (.cell i ty)).run P w = .ok cv w ∧ VR ρ R v cv := by
              simp only [resOne]
              generalize evA tm (.t i) = X at vt hld
              generalize a.tmps.getD i Go.undef = Y at vt
              have hl2 := hld
              cases vt <;> simp only [loadAt] at hl2 <;> try (cases hl2; done)
              case ptr id off lo hR =>
                obtain ⟨cv, hcv, hvr⟩ := loadAt_ok iv hn (VR.ptr id off lo hR) hld
                refine ⟨cv, ?_, hvr⟩
                simp only [Instr.loadAt, Instr.sureAddr, Sem.run_bind, Sem.run_pure, Result.andThen_ok] at hcv
                simp only [asAddr, Sem.run_bind, Sem.run_pure, Result.andThen_ok]
                exact hcv
            exact ⟨_, by simp [List.mapM_cons, Sem.run_bind, hcv, hv], .cons _ _ _ _ hvr hr'⟩
theorem oneOrMore_ok {l : List AV} {vs : List Value} (h : VRs ρ R l vs) : VR ρ R (oneOrMore l) (if h : vs.length = 1 then vs[0] else .tuple vs.toArray) := by
  cases h with
  | nil => exact .tuple [] #[] .nil
  | cons a v l m h hs =>
    cases hs with
    | nil => simpa [oneOrMore] using h
    | cons b u l' m' h' hs' =>
      have : ¬ (v :: u :: m').length = 1 := by simp
      rw [dif_neg this]
      exact .tuple _ _ (by simpa using VRs.cons _ _ _ _ h (.cons _ _ _ _ h' hs'))
end
end Go.Ab

namespace Go.Ab
section
variable {P : Program} {ρ : Nat → Int} {R : Inj} {h : T AObj} {w : World} {E : T Unit} {N : Nat} {tm : T AV} {a : Act} {st st' : St}
theorem loop_put {L : Go.Loop} {l : Nat} (hb : w.heap[l]? = some (.loop L)) (L' : Go.Loop) : (setObj l (.loop L')).run P w = .ok () { w with heap := w.heap.setIfInBounds l (.loop L') } :=
  run_setObj hb (by intros; simp)
theorem run_getLoop {L : Go.Loop} {l : Nat} (hb : w.heap[l]? = some (.loop L)) : (Instr.getLoop l).run P w = .ok L w := by
  simp [Instr.getLoop, run_getObj' (P := P) hb (by intros; simp)]
theorem run_beginRound' {L : Go.Loop} {l : Nat} (hb : w.heap[l]? = some (.loop L)) (hs : L.state = .ready) : (Instr.beginRound l).run P w = .ok () { w with heap := w.heap.setIfInBounds l (.loop { L with state := .busy }) } := by
  simp [Instr.beginRound, run_getLoop (P := P) hb, loop_put hb, hs]
theorem run_endRound' {L : Go.Loop} {l : Nat} (hb : w.heap[l]? = some (.loop L)) (j : Option Code) :
    (Instr.endRound l j).run P w = .ok (.bool j.isNone) { w with heap := w.heap.setIfInBounds l (.loop { L with state := if j.isNone then .ready else .done, pending := j }) } := by
  simp [Instr.endRound, run_getLoop (P := P) hb, loop_put hb]
theorem run_endLoop' {L : Go.Loop} {l : Nat} (hb : w.heap[l]? = some (.loop L)) (hs : L.state ≠ .busy) : (Instr.endLoop l).run P w = .ok L.pending { w with heap := w.heap.setIfInBounds l (.loop { L with state := .exhausted }) } := by
  simp [Instr.endLoop, run_getLoop (P := P) hb, loop_put hb, hs]
theorem run_takeDeferred' {l : Nat} (hb : w.heap[l]? = some (.deferred (some []))) : (Instr.takeDeferred l).run P w = .ok [] { w with heap := w.heap.setIfInBounds l (.deferred none) } := by
  simp [Instr.takeDeferred, run_getObj' (P := P) hb (by intros; simp), run_setObj (P := P) (o' := .deferred none) hb (by intros; simp)]
theorem St.kill_heap (st : St) (id : Nat) : (st.kill id).heap = st.heap.del id := rfl
theorem St.kill_next (st : St) (id : Nat) : (st.kill id).next = st.next := rfl
theorem St.kill_low (st : St) (id : Nat) : (st.kill id).low = lowered st.low id := rfl
theorem St.kill_tr (st : St) (id : Nat) : (st.kill id).tr = st.tr := rfl
theorem dropMarks_tr : ∀ (mk : List Nat) (st st' : St), dropMarks mk st = some st' → st'.tr = st.tr ∧ st'.next = st.next := by
  intro mk
  induction mk with
  | nil => intro st st' h; simp only [dropMarks, Option.some.injEq] at h; subst h; exact ⟨rfl, rfl⟩
  | cons r l ih =>
    intro st st' h
    simp only [dropMarks] at h
    split at h
    · obtain ⟨h1, h2⟩ := ih _ _ h; exact ⟨h1, h2⟩
    · cases h
theorem drop_ok {F : Fence} {n : Nat} {fn : Func} {tmps : Array Value} {K : Ending → World → Prop} {n0 : Nat} : ∀ (mk : List Nat) (st st' : St), dropMarks mk st = some st' → ∀ (R : Inj) (w : World) (ds : List Deferred), Marks R mk ds → Inv P ρ R st.heap w →
    (∀ w', Step P ρ R st.heap w R st'.heap w' st'.low n0 n0 → ∃ v, (results fn tmps).run P w' = .ok v w' ∧ K (.returned v) w') → LeavesInM F n P fn tmps K ds .returning w := by
  intro mk
  induction mk with
  | nil =>
    intro st st' h R w ds m iv hk
    simp only [dropMarks, Option.some.injEq] at h; subst h
    cases m
    exact hk w (Step.refl iv _ _)
  | cons r l ih =>
    intro st st' h R w ds m iv hk
    simp only [dropMarks] at h
    split at h
    · rename_i ho
      cases m with
      | cons _ lo _ ds hr hs =>
        obtain ⟨x, hx, hor⟩ := iv.at ho hr
        cases hor
        refine ⟨by simp, .inl ⟨lo.b, _, rfl, run_takeDeferred' hx, ?_⟩⟩
        have s1 : Step P ρ R st.heap w R (st.kill r).heap { w with heap := w.heap.setIfInBounds lo.b (.deferred none) } (st.kill r).low n0 n0 := Step.free iv ho hr (lowered_le _ _).2
        refine ih _ _ h R _ ds hs s1.inv fun w' s2 => hk w' ?_
        exact s1.trans s2 (dropMarks_mono _ _ _ h).low (Nat.le_refl _) (Nat.le_refl _)
    · cases h
structure EnvOK (P : Program) (ρ : Nat → Int) (G : Env) : Prop where
  fn : ∀ f cf, G.fn.get f = some cf → ∃ (E : T Unit) (fn : Func), P.funcs[f]? = some fn ∧ fn.name ≠ "runtime.NumGoroutine" ∧ cFunc P E fn = some cf
  ovMono : ∀ f o args st v st', G.ov.get f = some o → o args st = .ok (v, st') → Mono st st'
  ov : ∀ f o args st v st', G.ov.get f = some o → o args st = .ok (v, st') → ∀ R w cargs, VRs ρ R args cargs.toList → Glob R → InvW P ρ R st w → Fresh R st.next st'.next → Conds ρ st'.tr →
    Upon P (fun cv w' => ∃ R', VR ρ R' v cv ∧ Step P ρ R st.heap w R' st'.heap w' st'.low st.next st'.next) ((callFunc f cargs).run P w)
  orders : P.follows .mixedOrders = true
theorem get_ofList_leaf (args : List AV) (i : Nat) : (T.leaf.ofList 0 args).get i = args[i]? := by
  rw [T.get_ofList]
  by_cases h : i < args.length
  · rw [dif_pos ⟨Nat.zero_le _, by omega⟩]; simp [h]
  · rw [dif_neg (by omega), T.get_leaf, List.getElem?_eq_none (by omega)]
theorem TR.start {args : List AV} {cargs : Array Value} (h : VRs ρ R args cargs.toList) {n : Nat} (hn : args.length ≤ n) :
    TR ρ R E n (T.leaf.ofList 0 args) (cargs ++ Array.replicate (n - cargs.size) Go.undef) := by
  have hs : cargs.size = args.length := by have := h.length; simpa using this.symm
  refine ⟨by simp; omega, fun t _ => ?_⟩
  simp only [evA, get_ofList_leaf]
  rw [Array.getD_eq_getD_getElem?, Array.getElem?_append]
  by_cases hlt : t < args.length
  · obtain ⟨v, hv, hr⟩ := h.get (i := t) (a := args[t]) (by simp [hlt])
    rw [if_pos (by omega)]
    have : cargs[t]? = some v := by simpa using hv
    rw [this, List.getElem?_eq_getElem hlt]; exact hr
  · rw [if_neg (by omega), List.getElem?_eq_none (by omega)]
    simp only [Array.getElem?_replicate]
    split <;> exact .any _ rfl
theorem callFn_run {G : Env} {rec : EvF} (OK : EnvOK P ρ G) (ES : EvSound P ρ rec) (hrec : EvMono rec) {f : Nat} {args : List AV} {v : AV} (h : callFn G rec f args st = .ok (v, st')) {R : Inj} {w : World} {cargs : Array Value}
    (ha : VRs ρ R args cargs.toList) (gl : Glob R) (iv : InvW P ρ R st w) (hf : Fresh R st.next st'.next) (hcd : Conds ρ st'.tr) :
    Upon P (fun cv w' => ∃ R', VR ρ R' v cv ∧ Step P ρ R st.heap w R' st'.heap w' st'.low st.next st'.next) ((callFunc f cargs).run P w) := by
  unfold callFn at h
  split at h
  · rename_i o ho; exact OK.ov f o args st v st' ho h R w cargs ha gl iv hf hcd
  · split at h
    · cases h
    · rename_i cf hcf
      obtain ⟨E, fn, hfn, hname, hcf⟩ := OK.fn f cf hcf
      simp only [callBody] at h
      split at h
      · rename_i hble
        have hlen : args.length ≤ cf.ntmps := by have := Nat.le_of_ble_eq_true hble; rwa [lenL_eq] at this
        rw [T.ofListK_eq] at h
        unfold cFunc at hcf
        obtain ⟨body, hbody, hcf⟩ := bind_some hcf
        obtain ⟨cr, hcr, hcf⟩ := bind_some hcf
        split at hcf
        · simp only [Option.some.injEq] at hcf; subst hcf
          simp only at h hlen
          have hrun : (callFunc f cargs).run P w = .ok (.enter f cargs) w := by
            simp [callFunc, Sem.run, program, hfn, hname, hbody]
          rw [hrun]
          simp only [Upon]
          refine callsIn_of_wp_marks hfn hbody trivial ?_
          unfold endCall at h
          split at h
          · cases h
          · rename_i e tm1 mk1 st1 hev
            have tr0 : TR ρ R E fn.ntmps (T.leaf.ofList 0 args) (cargs ++ Array.replicate (fn.ntmps - cargs.size) Go.undef) := TR.start ha hlen
            split at h
            · cases h
            · rename_i hne
              split at h
              · cases h
              · rename_i st2 hd
                split at h
                · rename_i l hl
                  simp only [Except.ok.injEq, Prod.mk.injEq] at h
                  obtain ⟨rfl, rfl⟩ := h
                  have hd2 := dropMarks_tr _ _ _ hd
                  have hd3 := dropMarks_mono _ _ _ hd
                  have hm1 := hrec _ _ _ _ _ _ _ _ _ hev
                  refine ES E fn.ntmps none body _ [] st e tm1 mk1 st1 hev R _ w tr0 .nil gl iv (by rw [← hd2.2]; exact hf) (by rw [← hd2.1]; exact hcd) _ fun a' w' R' t' m' s' => ?_
                  have out : LeavesInM (fenceOf none) 0 P fn a'.tmps (fun e w' => ∃ v_1, e = Ending.returned v_1 ∧ ∃ R', VR ρ R' (oneOrMore l) v_1 ∧ Step P ρ R st.heap w R' st2.heap w' st2.low st.next st2.next) a'.defers .returning w' := by
                    refine drop_ok (n0 := st1.next) mk1 st1 st2 hd R' w' a'.defers m' s'.inv fun w'' s'' => ?_
                    obtain ⟨vs, hvs, hr⟩ := results_ok t' s''.inv hcr hl
                    refine ⟨_, results_eq fn a'.tmps hvs, _, rfl, R', oneOrMore_ok hr, ?_⟩
                    rw [hd2.2]
                    exact s'.trans s'' hd3.low hm1.next (Nat.le_refl _)
                  cases e with
                  | normal => exact out
                  | ret => exact out
                  | exit i => exact absurd rfl (hne i)
                · cases h
        · cases hcf
      · cases h
end
end Go.Ab

namespace Go.Ab
section
variable {P : Program} {ρ : Nat → Int} {R : Inj} {h : T AObj} {w : World} {E : T Unit} {N : Nat} {tm : T AV} {a : Act} {st st' : St}
theorem setAll_ok : ∀ {ps : List Nat} {args : List AV} {tm tm' : T AV} {vs : List Value} {tmps : Array Value}, setAll tm ps args = some tm' → VRs ρ R args vs → TR ρ R E N tm tmps → (∀ p ∈ ps, p < N ∧ E.get p = none) →
    vs.length = ps.length ∧ TR ρ R E N tm' ((ps.zip vs).foldl (fun tmps (t, a) => tmps.setIfInBounds t a) tmps) := by
  intro ps
  induction ps with
  | nil =>
    intro args tm tm' vs tmps h hv t _
    cases args with
    | nil => simp only [setAll, Option.some.injEq] at h; subst h; cases hv; exact ⟨rfl, t⟩
    | cons => simp only [setAll] at h; cases h
  | cons p ps ih =>
    intro args tm tm' vs tmps h hv t hp
    cases args with
    | nil => simp only [setAll] at h; cases h
    | cons x args =>
      simp only [setAll] at h
      cases hv with
      | cons _ v _ vs hx hxs =>
        have t1 : TR ρ R E N (tm.set p x) (tmps.setIfInBounds p v) := TR.set (a := ⟨tmps, []⟩) t (hp p (by simp)).1 hx
        obtain ⟨h1, h2⟩ := ih h hxs t1 (fun q hq => hp q (by simp [hq]))
        exact ⟨by simp [h1], by simpa using h2⟩
theorem LoopR.code' {lp : Loop} {L : Go.Loop} (r : LoopR P ρ R lp L) : ∃ (E : T Unit) (n : Nat), TR ρ R E n lp.tm L.tmps ∧ cCode P E n L.assign = lp.assign ∧ cCode P E n L.body = lp.body ∧ ∀ p ∈ lp.params, p < n ∧ E.get p = none := r.code
theorem loop_at (i : Inv P ρ R h w) {l : Nat} {lp : Loop} {lo : Loc} (ho : h.get l = some (.loop lp)) (hr : R l = some lo) : ∃ L, w.heap[lo.b]? = some (.loop L) ∧ LoopR P ρ R lp L := by
  obtain ⟨x, hx, r⟩ := i.at ho hr
  cases r with | loop _ _ L r => exact ⟨L, hx, r⟩
theorem or_false_split {a b : Bool} (h : (a || b) = false) : a = false ∧ b = false := by cases a <;> cases b <;> simp_all
theorem St.put_heap (st : St) (id : Nat) (o : AObj) : (st.put id o).heap = st.heap.set id o := rfl
theorem St.put_next (st : St) (id : Nat) (o : AObj) : (st.put id o).next = st.next := rfl
theorem St.put_low (st : St) (id : Nat) (o : AObj) : (st.put id o).low = lowered st.low id := rfl
theorem St.put_tr (st : St) (id : Nat) (o : AObj) : (st.put id o).tr = st.tr := rfl
theorem callRound_run {rec : EvF} (ES : EvSound P ρ rec) (hrec : EvMono rec) {l : Nat} {args : List AV} {v : AV} (h : callRound rec l args st = .ok (v, st')) {R : Inj} {w : World} {cargs : Array Value} {lo : Loc} (hR : R l = some lo)
    (ha : VRs ρ R args cargs.toList) (gl : Glob R) (iv : InvW P ρ R st w) (hf : Fresh R st.next st'.next) (hcd : Conds ρ st'.tr) :
    Upon P (fun cv w' => ∃ R', VR ρ R' v cv ∧ Step P ρ R st.heap w R' st'.heap w' st'.low st.next st'.next) ((Instr.yield lo.b cargs).run P w) := by
  unfold callRound at h
  split at h
  rotate_left
  · cases h
  rename_i lp hlp
  split at h
  rotate_left
  · cases h
  rename_i tm1 hbo hset
  split at h
  rotate_left
  · cases h
  · cases h
  rename_i tm2 st2 hev1
  split at h
  rotate_left
  · cases h
  rename_i lp1 hlp1
  split at h
  rotate_left
  · cases h
  rename_i hbo1
  split at h
  rotate_left
  · cases h
  · cases h
  rename_i e tm4 st4 hev2
  split at h
  rotate_left
  · cases h
  rename_i lp2 hlp2
  obtain ⟨L, hL, LR⟩ := loop_at iv.inv hlp hR
  obtain ⟨E, N, trL, hca, hcb, hps⟩ := LR.code
  obtain ⟨hb0, ho0⟩ := or_false_split hbo
  obtain ⟨hb1, ho1⟩ := or_false_split hbo1
  obtain ⟨hlen, t1⟩ := setAll_ok hset ha trL hps
  have m1 := hrec _ _ _ _ _ _ _ _ _ hev1
  have m2 := hrec _ _ _ _ _ _ _ _ _ hev2
  have mst : st'.next = st4.next ∧ st'.tr = st4.tr ∧ st'.low = lowered st4.low l := by
    split at h <;> simp only [Except.ok.injEq, Prod.mk.injEq] at h <;> obtain ⟨_, rfl⟩ := h <;> exact ⟨rfl, rfl, rfl⟩
  have hparams : L.params.size = lp.params.length := by rw [LR.params]; simp
  have hcs : cargs.size = L.params.size := by rw [hparams, ← hlen]; simp
  have hy : (Instr.yield lo.b cargs).run P w = .ok (.round lo.b L.fn ((lp.params.zip cargs.toList).foldl (fun tmps (t, a) => tmps.setIfInBounds t a) L.tmps) L.assign L.body) w := by
    simp only [Instr.yield, Sem.run_bind, run_getLoop (P := P) hL, Result.andThen_ok, hcs, ne_eq, not_true, if_false, Sem.run_pure]
    rw [LR.params, ← Array.foldl_toList]
    simp
  rw [hy]
  simp only [Upon]
  refine roundIn_of_wpIn trivial ?_
  have hcd4 : Conds ρ st4.tr := by rw [← mst.2.1]; exact hcd
  have hcd2 : Conds ρ st2.tr := m2.conds hcd4
  have n12 : st.next ≤ st2.next := m1.next
  have n24 : st2.next ≤ st4.next := m2.next
  have hev1' : rec (some lo.b).isSome (cCode P E N L.assign) tm1 [] st = .ok .normal tm2 [] st2 := by rw [hca]; exact hev1
  refine ES E N (some lo.b) L.assign tm1 [] st .normal tm2 [] st2 hev1' R { tmps := _, defers := [] } w t1 .nil gl iv (hf.sub (Nat.le_refl _) (by omega)) hcd2 _ fun a1 w1 R1 tr1 mk1 s1 => ?_
  have fr1 : Fresh R st.next st2.next := hf.sub (Nat.le_refl _) (by omega)
  have e1 : Ext R R1 := s1.mono fr1
  obtain ⟨L1, hL1, LR1⟩ := loop_at s1.inv hlp1 (e1 _ _ hR)
  refine ⟨_, run_beginRound' hL1 (by rw [LR1.state, hb1, ho1]), ?_⟩
  have LRb : LoopR P ρ R1 { lp1 with busy := true } { L1 with state := .busy } := ⟨rfl, LR1.pending, LR1.params, LR1.code, LR1.some'⟩
  have s2 : Step P ρ R1 st2.heap w1 R1 (st2.put l (.loop { lp1 with busy := true })).heap { w1 with heap := w1.heap.setIfInBounds lo.b (.loop { L1 with state := .busy }) } (lowered st2.low l) st2.next st2.next :=
    Step.write s1.inv hlp1 (e1 _ _ hR) (.loop _ _ _ LRb) (lowered_le _ _).2
  have hev2' : rec (some lo.b).isSome (cCode P E N L.body) tm2 [] (st2.put l (.loop { lp1 with busy := true })) = .ok e tm4 [] st4 := by rw [hcb]; exact hev2
  have fr2 : Fresh R1 st2.next st4.next := s1.fresh (n2 := st4.next) (hf.sub (Nat.le_refl _) (by omega)) n24 n12
  refine ES E N (some lo.b) L.body tm2 [] _ e tm4 [] st4 hev2' R1 a1 _ tr1 mk1 (gl.mono e1) (s2.toW (s1.toW iv m1.next) (Nat.le_refl _)) fr2 hcd4 _ fun a4 w4 R4 tr4 mk4 s4 => ?_
  have e4 : Ext R1 R4 := s4.mono fr2
  have hR4 : R4 l = some lo := e4 _ _ (e1 _ _ hR)
  obtain ⟨L4, hL4, LR4⟩ := loop_at s4.inv hlp2 hR4
  have low2 : st4.low ≤ lowered st2.low l := m2.low
  have chain : ∀ (lp' : Loop) (L' : Go.Loop), LoopR P ρ R4 lp' L' → Step P ρ R st.heap w R4 (st4.heap.set l (.loop lp')) { w4 with heap := w4.heap.setIfInBounds lo.b (.loop L') } (lowered st4.low l) st.next st4.next := by
    intro lp' L' r
    have s5 : Step P ρ R4 st4.heap w4 R4 (st4.heap.set l (.loop lp')) { w4 with heap := w4.heap.setIfInBounds lo.b (.loop L') } (lowered st4.low l) st4.next st4.next :=
      Step.write s4.inv hlp2 hR4 (.loop _ _ _ r) (lowered_le _ _).2
    have s12 := s1.trans s2 (lowered_le _ _).1 n12 (Nat.le_refl _)
    have s124 := s12.trans s4 low2 n12 n24
    exact s124.trans s5 (lowered_le _ _).1 (by omega) (Nat.le_refl _)
  cases e with
  | normal =>
    simp only [Except.ok.injEq, Prod.mk.injEq] at h
    obtain ⟨rfl, rfl⟩ := h
    exact ⟨_, _, run_endRound' hL4 none, _, rfl, R4, .bool true, chain _ _ ⟨rfl, rfl, LR4.params, LR4.code, by simp⟩⟩
  | exit i =>
    simp only [Except.ok.injEq, Prod.mk.injEq] at h
    obtain ⟨rfl, rfl⟩ := h
    exact ⟨_, _, run_endRound' hL4 (some (.exit i)), _, rfl, R4, .bool false, chain _ _ ⟨rfl, rfl, LR4.params, LR4.code, by simp⟩⟩
  | ret =>
    simp only [Except.ok.injEq, Prod.mk.injEq] at h
    obtain ⟨rfl, rfl⟩ := h
    exact ⟨_, _, run_endRound' hL4 (some .ret), _, rfl, R4, .bool false, chain _ _ ⟨rfl, rfl, LR4.params, LR4.code, by simp⟩⟩
end
end Go.Ab

namespace Go.Ab
def DrawOK (P : Program) (ρ : Nat → Int) (call : CallV) : Prop :=
  ∀ (E : T Unit) (N : Nat) (F : Fence), Wide F → ∀ (id : Nat) (ops : Array Oper) (tm tm' : T AV) (st st' : St), (drawOk ops (Region.before ops).toList (cDrawOpers P E ops ops.toList (Region.before ops).toList) && dstsOk E N ops) = true →
    evDrawAll call (cDrawOpers P E ops ops.toList (Region.before ops).toList) tm st = .ok (tm', st') →
    ∀ (R : Inj) (a : Act) (w : World), TR ρ R E N tm a.tmps → Glob R → InvW P ρ R st w → Fresh R st.next st'.next → Conds ρ st'.tr →
      ∀ (Q : Exit → Act → World → Prop), (∀ a' w' R', TR ρ R' E N tm' a'.tmps → a'.defers = a.defers → Step P ρ R st.heap w R' st'.heap w' st'.low st.next st'.next → Q .normal a' w') →
      (Code.region id ops true).wpIn F 0 P Q a w
section
variable {P : Program} {ρ : Nat → Int} {G : Env} {rec : EvF}
theorem callAny_sound (OK : EnvOK P ρ G) (ES : EvSound P ρ rec) (hrec : EvMono rec) : CallSound P ρ (callAny G rec) := by
  refine ⟨callAny_mono hrec OK.ovMono, fun fn args st v st' h R w cfn cargs hfn ha gl iv hf hcd => ?_⟩
  cases hfn with
  | func f => exact callFn_run OK ES hrec h ha gl iv hf hcd
  | yield id l hR => exact callRound_run ES hrec h hR ha gl iv hf hcd
theorem Marks.same {R : Inj} {mk : List Nat} {a a' : Act} (e : a'.defers = a.defers) (h : Marks R mk a.defers) : Marks R mk a'.defers := by rw [e]; exact h
def Good (P : Program) (ρ : Nat → Int) (E : T Unit) (N : Nat) (ro : Option Nat) (c : Code) (res : T AV → List Nat → St → Res) : Prop :=
  ∀ tm mk st e tm' mk' st', res tm mk st = .ok e tm' mk' st' →
    ∀ (R : Inj) (a : Act) (w : World), TR ρ R E N tm a.tmps → Marks R mk a.defers → Glob R → InvW P ρ R st w → Fresh R st.next st'.next → Conds ρ st'.tr →
      ∀ (Q : Exit → Act → World → Prop), (∀ a' w' R', TR ρ R' E N tm' a'.tmps → Marks R' mk' a'.defers → Step P ρ R st.heap w R' st'.heap w' st'.low st.next st'.next → Q (exOf e) a' w') →
      c.wpIn (fenceOf ro) 0 P Q a w
variable {E : T Unit} {N : Nat} {ro : Option Nat}
theorem Good.seq {x y : Code} {fx fy : T AV → List Nat → St → Res} (hx : Good P ρ E N ro x fx) (hy : Good P ρ E N ro y fy)
    (mx : ∀ tm mk st, ResMono st (fx tm mk st)) (my : ∀ tm mk st, ResMono st (fy tm mk st)) : Good P ρ E N ro (.seq x y) (fun tm mk st => thenK fy (fx tm mk st)) := by
  intro tm mk st e tm' mk' st' h R a w t m gl iv hf hcd Q hQ
  simp only [thenK] at h
  split at h
  rotate_left
  · cases h
  rename_i e1 tm1 mk1 st1 h1
  have m1 := mx _ _ _ _ _ _ _ h1
  refine wpIn_seq ?_
  split at h
  · have m2 := my _ _ _ _ _ _ _ h
    refine hx _ _ _ _ _ _ _ h1 R a w t m gl iv (hf.sub (Nat.le_refl _) m2.next) (m2.conds hcd) _ fun a1 w1 R1 t1 mk1 s1 => ?_
    have fr1 : Fresh R st.next st1.next := hf.sub (Nat.le_refl _) m2.next
    refine hy _ _ _ _ _ _ _ h R1 a1 w1 t1 mk1 (gl.mono (s1.mono fr1)) (s1.toW iv m1.next) (s1.fresh hf m2.next m1.next) hcd Q fun a2 w2 R2 t2 mk2 s2 => hQ _ _ _ t2 mk2 (s1.trans s2 m2.low m1.next m2.next)
  · rename_i hne
    simp only [Res.ok.injEq] at h
    obtain ⟨rfl, rfl, rfl, rfl⟩ := h
    refine hx _ _ _ _ _ _ _ h1 R a w t m gl iv hf hcd _ fun a1 w1 R1 t1 mk1 s1 => ?_
    have := hQ a1 w1 R1 t1 mk1 s1
    cases e1 with
    | normal => exact absurd rfl hne
    | exit i => exact this
    | ret => exact this
theorem evStep_eq (c : CCode) (rnd : Bool) (tm : T AV) (mk : List Nat) (st : St) : evStep G rec rnd c tm mk st = evCode c G rec rnd tm mk st := rfl
theorem evStep_cRegion (l : List COper) (rnd : Bool) (tm : T AV) (mk : List Nat) (st : St) : evStep G rec rnd (cRegion l) tm mk st = endOps mk (evOps (callAny G rec) l tm st) := by
  cases l with
  | nil => rfl
  | cons o l => rfl
theorem ev_sound (OK : EnvOK P ρ G) (hd : ∀ call, CallSound P ρ call → DrawOK P ρ call) : ∀ n, EvSound P ρ (ev G n) ∧ EvMono (ev G n) := by
  intro n
  induction n using Nat.strongRecOn with
  | _ n ih =>
  cases n with
  | zero => exact ⟨fun _ _ _ _ _ _ _ _ _ _ _ h => (by cases h), fun _ _ _ _ _ _ _ _ _ h => (by cases h)⟩
  | succ n =>
  have ES := (ih n (by omega)).1
  have hrec := (ih n (by omega)).2
  have eq : ev G (n + 1) = evStep G (ev G n) := rfl
  rw [eq]
  have hmono : EvMono (evStep G (ev G n)) := evStep_mono hrec OK.ovMono
  refine ⟨?_, hmono⟩
  have CS : CallSound P ρ (callAny G (ev G n)) := callAny_sound OK ES hrec
  have gm : ∀ (ro : Option Nat) c tm mk st, ResMono st (evStep G (ev G n) ro.isSome c tm mk st) := fun ro c tm mk st e tm' mk' st' h => hmono _ _ _ _ _ _ _ _ _ h
  have rm : ∀ (ro : Option Nat) c tm mk st, ResMono st (ev G n ro.isSome c tm mk st) := fun ro c tm mk st e tm' mk' st' h => hrec _ _ _ _ _ _ _ _ _ h
  have gr : ∀ (E : T Unit) (N : Nat) (ro : Option Nat) (c : Code), Good P ρ E N ro c (ev G n ro.isSome (cCode P E N c)) := fun E N ro c tm mk st e tm' mk' st' h => ES E N ro c tm mk st e tm' mk' st' h
  suffices H : ∀ (E : T Unit) (N : Nat) (ro : Option Nat) (c : Code), Good P ρ E N ro c (evStep G (ev G n) ro.isSome (cCode P E N c)) from fun E N ro c tm mk st e tm' mk' st' h => H E N ro c tm mk st e tm' mk' st' h
  intro E N ro c
  induction c with
  | skip =>
    intro tm mk st e tm' mk' st' h R a w t m gl iv hf hcd Q hQ
    simp only [cCode, evStep_eq, evCode, cdSkip, Res.ok.injEq] at h
    obtain ⟨rfl, rfl, rfl, rfl⟩ := h
    exact wpIn_skip (hQ a w R t m (Step.refl iv.inv _ _))
  | ret =>
    intro tm mk st e tm' mk' st' h R a w t m gl iv hf hcd Q hQ
    simp only [cCode, evStep_eq, evCode, cdRet, Res.ok.injEq] at h
    obtain ⟨rfl, rfl, rfl, rfl⟩ := h
    exact wpIn_ret (hQ a w R t m (Step.refl iv.inv _ _))
  | exit i =>
    intro tm mk st e tm' mk' st' h R a w t m gl iv hf hcd Q hQ
    simp only [cCode, evStep_eq, evCode, cdExit, Res.ok.injEq] at h
    obtain ⟨rfl, rfl, rfl, rfl⟩ := h
    exact wpIn_exit (hQ a w R t m (Step.refl iv.inv _ _))
  | region id ops draw =>
    intro tm mk st e tm' mk' st' h R a w t m gl iv hf hcd Q hQ
    cases draw with
    | false =>
      simp only [cCode, evStep_cRegion] at h
      unfold endOps at h
      split at h
      rotate_left
      · cases h
      rename_i tm1 st1 h1
      simp only [Res.ok.injEq] at h
      obtain ⟨rfl, rfl, rfl, rfl⟩ := h
      refine wpIn_region ?_
      have := (ops_wp (fenceOf_wide ro) (n := 0) CS (ops := ops) ops.toList 0 [] tm st (by simp) h1).2 R a w t (fun _ h => by cases h) gl iv hf hcd Q fun a' w' R' t' d' s' => hQ a' w' R' t' (Marks.same d' (m.mono (s'.mono hf))) s'
      rw [List.range_eq_range']
      simpa using this
    | true =>
      simp only [cCode] at h
      split at h
      · rename_i hok
        simp only [evStep_eq, evCode, cdDraw, endOps] at h
        split at h
        rotate_left
        · cases h
        rename_i tm1 st1 h1
        simp only [Res.ok.injEq] at h
        obtain ⟨rfl, rfl, rfl, rfl⟩ := h
        exact hd _ CS E N (fenceOf ro) (fenceOf_wide ro) id ops tm _ st _ hok h1 R a w t gl iv hf hcd Q fun a' w' R' t' d' s' => hQ a' w' R' t' (Marks.same d' (m.mono (s'.mono hf))) s'
      · cases h
  | seq x y ihx ihy =>
    intro tm mk st e tm' mk' st' h
    have key : ∃ fx fy, Good P ρ E N ro x fx ∧ Good P ρ E N ro y fy ∧ (∀ tm mk st, ResMono st (fx tm mk st)) ∧ (∀ tm mk st, ResMono st (fy tm mk st)) ∧
        evStep G (ev G n) ro.isSome (cSeq (cCode P E N x) (cCode P E N y)) tm mk st = thenK fy (fx tm mk st) := by
      unfold cSeq
      split
      · rename_i hx
        rw [hx] at ihx
        exact ⟨_, _, ihx, ihy, gm ro _, gm ro _, rfl⟩
      · split
        · rename_i hy
          rw [hy] at ihy
          refine ⟨_, _, ihx, ihy, gm ro _, gm ro _, ?_⟩
          generalize evStep G (ev G n) ro.isSome (cCode P E N x) tm mk st = r
          cases r with
          | bad => rfl
          | ok e tm mk st => cases e <;> rfl
        · exact ⟨_, _, gr E N ro x, gr E N ro y, rm ro _, rm ro _, rfl⟩
    obtain ⟨fx, fy, gx, gy, mx, my, he⟩ := key
    simp only [cCode] at h
    rw [he] at h
    exact Good.seq gx gy mx my tm mk st e tm' mk' st' h
  | cond c x y ihx ihy =>
    intro tm mk st e tm' mk' st' h R a w t m gl iv hf hcd Q hQ
    simp only [cCode] at h
    split at h
    rotate_left
    · cases h
    rename_i cc hc
    simp only [evStep_eq, evCode, cdCond, evAK_eq] at h
    have C : Ctx ρ R E [] N tm a := ⟨t, fun _ _ _ hf => (by cases hf), gl⟩
    have vc := C.opnd hc
    generalize evA tm cc = X at vc h
    generalize hq : a.eval c = cv at vc
    cases vc <;> (try simp only [decR] at h) <;> try (cases h; done)
    case bool b =>
      refine wpIn_cond hq ?_
      cases b with
      | true => exact gr E N ro x tm mk st e tm' mk' st' h R a w t m gl iv hf hcd Q hQ
      | false => exact gr E N ro y tm mk st e tm' mk' st' h R a w t m gl iv hf hcd Q hQ
    case sbool s b hs =>
      obtain ⟨hp, nx, lo, sc, tr⟩ := st
      cases sc with
      | nil => simp only at h; cases h
      | cons d sc =>
        simp only at h
        have hm : Conds ρ ((s, d) :: tr) := by
          cases d
          · exact (rm ro _ _ _ _ _ _ _ _ h).conds hcd
          · exact (rm ro _ _ _ _ _ _ _ _ h).conds hcd
        have hbd : b = d := by have := hm (s, d) (by simp); simp only [hs] at this; exact this
        subst hbd
        refine wpIn_cond hq ?_
        cases b with
        | true => exact gr E N ro x tm mk _ e tm' mk' st' h R a w t m gl ⟨iv.inv, iv.wf⟩ hf hcd Q hQ
        | false => exact gr E N ro y tm mk _ e tm' mk' st' h R a w t m gl ⟨iv.inv, iv.wf⟩ hf hcd Q hQ
  | block i x ihx =>
    intro tm mk st e tm' mk' st' h R a w t m gl iv hf hcd Q hQ
    simp only [cCode, evStep_eq, evCode, cdBlock, endBlock] at h
    refine wpIn_block ?_
    split at h
    rotate_left
    · cases h
    rename_i e1 tm1 mk1 st1 h1
    split at h
    · rename_i j
      split at h
      · rename_i hb
        simp only [Res.ok.injEq] at h
        obtain ⟨rfl, rfl, rfl, rfl⟩ := h
        have hji := beq_true hb
        subst hji
        exact gr E N ro x tm mk st _ _ _ _ h1 R a w t m gl iv hf hcd _ fun a' w' R' t' m' s' => by
          simp only [exOf, Exit.inBlock, if_true]; exact hQ a' w' R' t' m' s'
      · rename_i hb
        simp only [Res.ok.injEq] at h
        obtain ⟨rfl, rfl, rfl, rfl⟩ := h
        have hji : ¬ j = i := fun c => by rw [c, show Nat.beq i i = true from Nat.beq_refl i] at hb; cases hb
        exact gr E N ro x tm mk st _ _ _ _ h1 R a w t m gl iv hf hcd _ fun a' w' R' t' m' s' => by
          simp only [exOf, Exit.inBlock, if_neg hji]; exact hQ a' w' R' t' m' s'
    · rename_i hne
      simp only [Res.ok.injEq] at h
      obtain ⟨rfl, rfl, rfl, rfl⟩ := h
      exact gr E N ro x tm mk st _ _ _ _ h1 R a w t m gl iv hf hcd _ fun a' w' R' t' m' s' => by
        have := hQ a' w' R' t' m' s'
        cases e1 with
        | normal => exact this
        | exit j => exact absurd rfl (hne j)
        | ret => exact this
  | loop b ihb =>
    intro tm mk st e tm' mk' st' h R a w t m gl iv hf hcd Q hQ
    let J : Nat → Act → World → Prop := fun k a w => k ≤ n + 1 ∧ ∃ tm mk st R, ev G k ro.isSome (.loop (cCode P E N b)) tm mk st = .ok e tm' mk' st' ∧ TR ρ R E N tm a.tmps ∧ Marks R mk a.defers ∧ Glob R ∧ InvW P ρ R st w ∧ Fresh R st.next st'.next ∧
      ∀ a' w' R', TR ρ R' E N tm' a'.tmps → Marks R' mk' a'.defers → Step P ρ R st.heap w R' st'.heap w' st'.low st.next st'.next → Q (exOf e) a' w'
    refine wpIn_loop_n J (fun k a w hJ => ?_) (m := n + 1) ⟨Nat.le_refl _, tm, mk, st, R, h, t, m, gl, iv, hf, hQ⟩
    obtain ⟨hk, tm, mk, st, R, h, t, m, gl, iv, hf, hQ⟩ := hJ
    cases k with
    | zero => cases h
    | succ k =>
      have h : thenK (ev G k ro.isSome (.loop (cCode P E N b))) (ev G k ro.isSome (cCode P E N b) tm mk st) = .ok e tm' mk' st' := h
      have ESk := (ih k (by omega)).1
      have hk' := (ih k (by omega)).2
      simp only [thenK] at h
      split at h
      rotate_left
      · cases h
      rename_i e1 tm1 mk1 st1 h1
      have m1 := hk' _ _ _ _ _ _ _ _ _ h1
      split at h
      · have m2 := hk' _ _ _ _ _ _ _ _ _ h
        refine ESk E N ro b _ _ _ _ _ _ _ h1 R a w t m gl iv (hf.sub (Nat.le_refl _) m2.next) (m2.conds hcd) _ fun a1 w1 R1 t1 mk1 s1 => ?_
        have fr1 : Fresh R st.next st1.next := hf.sub (Nat.le_refl _) m2.next
        exact ⟨k, by omega, by omega, tm1, _, st1, R1, h, t1, mk1, gl.mono (s1.mono fr1), s1.toW iv m1.next, s1.fresh hf m2.next m1.next, fun a2 w2 R2 t2 mk2 s2 => hQ _ _ _ t2 mk2 (s1.trans s2 m2.low m1.next m2.next)⟩
      · rename_i hne
        simp only [Res.ok.injEq] at h
        obtain ⟨rfl, rfl, rfl, rfl⟩ := h
        refine ESk E N ro b _ _ _ _ _ _ _ h1 R a w t m gl iv hf hcd _ fun a1 w1 R1 t1 mk1 s1 => ?_
        have := hQ a1 w1 R1 t1 mk1 s1
        cases e1 with
        | normal => exact absurd rfl hne
        | exit i => exact this
        | ret => exact this
  | rangeFunc g ps x y ihx ihy =>
    intro tm mk st e tm' mk' st' h R a w t m gl iv hf hcd Q hQ
    simp only [cCode] at h
    split at h
    rotate_left
    · cases h
    rename_i _b cg hg hall
    simp only [evStep_eq, evCode, cdRange, evAK_eq] at h
    split at h
    · cases h
    rename_i hrnd
    have hro : ro = none := by cases ro with | none => rfl | some l => cases hrnd
    subst hro
    have C : Ctx ρ R E [] N tm a := ⟨t, fun _ _ _ hf => (by cases hf), gl⟩
    have vg := C.opnd hg
    generalize evA tm cg = X at vg h
    generalize hq : a.eval g = cv at vg
    split at h
    rotate_left
    · cases h
    rename_i f first captured
    split at h
    rotate_left
    · cases h
    rename_i cf hcf
    simp only [St.newK_eq] at h
    cases vg with
    | func _ _ _ fs cs h1 h2 =>
    unfold endRange at h
    split at h
    rotate_left
    · cases h
    rename_i v3 st3 hcall
    split at h
    rotate_left
    · cases h
    rename_i lp hlp
    split at h
    rotate_left
    · cases h
    rename_i hbusy
    simp only [Res.ok.injEq] at h
    obtain ⟨he, rfl, rfl, rfl⟩ := h
    have mc := callFn_mono hrec OK.ovMono hcall
    have hn3 : st.next + 1 + 1 ≤ st3.next := mc.next
    have hfr : Fresh R st.next st3.next := hf
    have hlow3 : st3.low ≤ st.low := mc.low
    let r0 : Loc := ⟨w.heap.size, 0, 0⟩
    let l0 : Loc := ⟨w.heap.size + 1, 0, 0⟩
    let lpa : Loop := { busy := false, over := false, pending := none, tm, params := ps.toList, assign := cCode P E N x, body := cCode P E N y }
    have hR0 : R st.next = none := hfr _ (Nat.le_refl _) (by omega)
    have s1 : Step P ρ R st.heap w (R.upd st.next r0) (st.heap.set st.next .defr) { w with heap := w.heap.push (.deferred (some [])) } st.low st.next (st.next + 1) :=
      Step.alloc iv.inv hR0 (l := r0) rfl (.defr r0) _
    have hR1 : R.upd st.next r0 (st.next + 1) = none := by rw [Inj.upd_ne _ _ (by omega)]; exact hfr _ (by omega) (by omega)
    have ex1 : Ext R (R.upd st.next r0) := Inj.upd_ext hR0 r0
    have ex2 : Ext (R.upd st.next r0) ((R.upd st.next r0).upd (st.next + 1) l0) := Inj.upd_ext hR1 l0
    have hps' : ∀ p ∈ ps.toList, p < N ∧ E.get p = none := by
      intro p hp
      have := List.all_eq_true.1 hall p hp
      simp only [Bool.and_eq_true] at this
      exact ⟨blt_true this.1, by simpa using this.2⟩
    have LRs : ∀ fn, LoopR P ρ ((R.upd st.next r0).upd (st.next + 1) l0) lpa { state := .ready, pending := none, fn, tmps := a.tmps, params := ps, assign := x, body := y, defers := w.heap.size } := fun fn =>
      ⟨rfl, rfl, by simp [lpa], ⟨E, N, (t.mono ex1).mono ex2, rfl, rfl, hps'⟩, by simp [lpa]⟩
    refine wpIn_rangeFunc fun fn _ => ?_
    let L : Go.Loop := { state := .ready, pending := none, fn, tmps := a.tmps, params := ps, assign := x, body := y, defers := w.heap.size }
    let w1 : World := { w with heap := (w.heap.push (.deferred (some []))).push (.loop L) }
    have s2 : Step P ρ (R.upd st.next r0) (st.heap.set st.next .defr) { w with heap := w.heap.push (.deferred (some [])) } ((R.upd st.next r0).upd (st.next + 1) l0) ((st.heap.set st.next .defr).set (st.next + 1) (.loop lpa)) w1 st.low (st.next + 1) (st.next + 1 + 1) :=
      Step.alloc s1.inv hR1 (l := l0) (by simp [l0]) (.loop _ _ _ (LRs fn)) _
    have s12 := s1.trans s2 (Nat.le_refl _) (by omega) (by omega)
    obtain ⟨E', fn', hfn', hname', hcf'⟩ := OK.fn f cf hcf
    unfold cFunc at hcf'
    obtain ⟨bd, hbd, _⟩ := bind_some hcf'
    let cargs : Array Value := (fs ++ #[.func (.yield (w.heap.size + 1)) #[] #[]]) ++ cs
    have hrun : ∀ w', (callFunc f cargs).run P w' = .ok (.enter f cargs) w' := fun w' => by
      simp [callFunc, Sem.run, program, hfn', hname', hbd]
    have vargs : VRs ρ ((R.upd st.next r0).upd (st.next + 1) l0) (first ++ (.func (.yield (st.next + 1)) [] [] :: captured)) cargs.toList := by
      have hy : VR ρ ((R.upd st.next r0).upd (st.next + 1) l0) (.func (.yield (st.next + 1)) [] []) (.func (.yield (w.heap.size + 1)) #[] #[]) := .yield _ l0 (Inj.upd_eq _ _ _)
      have := VRs.append ((h1.mono ex1).mono ex2) (VRs.append (.cons _ _ _ _ hy .nil) ((h2.mono ex1).mono ex2))
      simpa [cargs] using this
    have fr3 : Fresh ((R.upd st.next r0).upd (st.next + 1) l0) (st.next + 1 + 1) st3.next := s12.fresh (n2 := st3.next) hfr hn3 (by omega)
    have hup := callFn_run OK ES hrec hcall vargs ((gl.mono ex1).mono ex2) ⟨s12.inv, fun id hid => s12.dom id (iv.wf id (by have : st.next + 1 + 1 ≤ id := hid; omega)) fun c => Nat.lt_irrefl _ (Nat.lt_of_lt_of_le c.2 hid)⟩ fr3 hcd
    rw [hrun w1] at hup
    have hres : (resolve a.eval (rangeCall g (w.heap.size + 1)) 0).run P w1 = .ok { target := .fn (.func f) cs, args := fs ++ #[.func (.yield (w.heap.size + 1)) #[] #[]] } w1 := by
      have : resolve a.eval (rangeCall g (w.heap.size + 1)) 0 = Deferred.ofValue (a.eval g) #[.func (.yield (w.heap.size + 1)) #[] #[]] := by
        simp [resolve, Act.eval]
      rw [this, hq]; rfl
    refine ⟨w.heap.size + 1, [{ target := .collected w.heap.size, args := #[] }], w1, _, w1, f, cargs, w1, ?_, hres, fun _ _ => trivial, ?_, fun h => (by cases h), ?_⟩
    · show (Instr.enterLoop fn a.tmps ps x y none).run P w = _
      simp [Instr.enterLoop, w1, L]
      rfl
    · show (callFunc f cargs).run P w1 = _
      exact hrun w1
    · simp only [Upon] at hup
      refine hup.mono fun e3 w3 hK => ?_
      obtain ⟨v, rfl, R3, hv, s3⟩ := hK
      have fr12 : Fresh R st.next (st.next + 1 + 1) := hfr.sub (Nat.le_refl _) hn3
      have e12 : Ext R ((R.upd st.next r0).upd (st.next + 1) l0) := fun i l h => ex2 _ _ (ex1 _ _ h)
      have e3 : Ext ((R.upd st.next r0).upd (st.next + 1) l0) R3 := s3.mono fr3
      have hRl : R3 (st.next + 1) = some l0 := e3 _ _ (Inj.upd_eq _ _ _)
      have hRr : R3 st.next = some r0 := e3 _ _ (ex2 _ _ (Inj.upd_eq _ _ _))
      obtain ⟨L3, hL3, LR3⟩ := loop_at s3.inv hlp hRl
      have hnb : L3.state ≠ .busy := by
        rw [LR3.state, hbusy]; cases lp.over <;> simp
      have s4 : Step P ρ R3 st3.heap w3 R3 (st3.kill (st.next + 1)).heap { w3 with heap := w3.heap.setIfInBounds l0.b (.loop { L3 with state := .exhausted }) } (lowered st3.low (st.next + 1)) st3.next st3.next :=
        Step.free s3.inv hlp hRl (lowered_le _ _).2
      have s123 := s12.trans s3 hlow3 (by omega) hn3
      have s1234 := s123.trans s4 (lowered_le _ _).1 (by omega) (Nat.le_refl _)
      have tf : TR ρ R3 E N tm a.tmps := (t.mono e12).mono e3
      have mf : Marks R3 (st.next :: mk) ({ target := .collected w.heap.size, args := #[] } :: a.defers) := .cons _ r0 _ _ hRr ((m.mono e12).mono e3)
      have hq' := hQ { a with defers := [{ target := .collected w.heap.size, args := #[] }] ++ a.defers } _ R3 tf mf s1234
      refine ⟨L3.pending, _, run_endLoop' (l := l0.b) hL3 hnb, ?_⟩
      have hpend := LR3.pending
      generalize ({ w3 with heap := w3.heap.setIfInBounds l0.b (.loop { L3 with state := .exhausted }) } : World) = w4 at hq' ⊢
      rw [hpend]
      cases hp : lp.pending with
      | none =>
        rw [hp] at he; simp only at he
        rw [← he] at hq'
        exact hq'
      | some e0 =>
        rw [hp] at he; simp only at he
        rw [← he] at hq'
        cases e0 with
        | normal => exact absurd hp LR3.some'
        | exit i => exact wpIn_exit hq'
        | ret => exact wpIn_ret hq'
  | _ => intro tm mk st e tm' mk' st' h; cases h
end
end Go.Ab

namespace Go.Ab
section
variable {tm tm' : T AV} {st st' : St} {v : AV} {call : CallV}
theorem evAs_congr : ∀ {l : List CA}, (∀ x ∈ l, evA tm x = evA tm' x) → evAs tm l = evAs tm' l := by
  intro l
  induction l with
  | nil => intro _; rfl
  | cons x l ih => intro h; simp only [evAs]; rw [h x (by simp), ih fun y hy => h y (by simp [hy])]
theorem optB_congr {x : Option CA} (h : ∀ y ∈ optA x, evA tm y = evA tm' y) (a b : Nat) : optB x tm a b = optB x tm' a b := by
  cases x with
  | none => rfl
  | some x => simp only [optB]; rw [h x (by simp [optA])]
theorem fillParts_congr : ∀ {l : List (Nat × Nat × CA)} {cs : List AV}, (∀ x ∈ partsA l, evA tm x = evA tm' x) → fillParts tm cs l = fillParts tm' cs l := by
  intro l
  induction l with
  | nil => intro cs _; rfl
  | cons p l ih =>
    intro cs h
    obtain ⟨off, size, x⟩ := p
    simp only [fillParts]
    rw [h x (by simp [partsA]), ih fun y hy => h y (by simp [partsA, hy])]
theorem sliceOf_congr {id off len cap esz : Nat} {ex : Bool} {lo hi : Option CA} (h1 : ∀ y ∈ optA lo, evA tm y = evA tm' y) (h2 : ∀ y ∈ optA hi, evA tm y = evA tm' y) : sliceOf id off len cap ex esz tm lo hi st = sliceOf id off len cap ex esz tm' lo hi st := by
  simp only [sliceOf, optB_congr h1, optB_congr h2]
theorem sliceNil_congr {lo hi mx : Option CA} (h1 : ∀ y ∈ optA lo, evA tm y = evA tm' y) (h2 : ∀ y ∈ optA hi, evA tm y = evA tm' y) (h3 : ∀ y ∈ optA mx, evA tm y = evA tm' y) : sliceNil tm lo hi mx st = sliceNil tm' lo hi mx st := by
  simp only [sliceNil, optB_congr h1, optB_congr h2, optB_congr h3]
theorem evOp_congr {co : CO} (h : ∀ x ∈ co.args, evA tm x = evA tm' x) : evOp co tm st call = evOp co tm' st call := by
  cases co
  case build z p => simp only [CO.args] at h; simp only [evOp, opBuild, fillParts_congr h]
  case buildSlice e n l z p => simp only [CO.args] at h; simp only [evOp, opBuildSlice, fillParts_congr h]
  case mkFunc f a b =>
    simp only [CO.args, List.mem_append] at h
    simp only [evOp, opMkFunc, evAsK_eq, evAs_congr fun x hx => h x (.inl hx), evAs_congr fun x hx => h x (.inr hx)]
  case call f l => simp only [CO.args] at h; simp only [evOp, opCall, evAsK_eq, evAs_congr h]
  case min l => simp only [CO.args] at h; simp only [evOp, opMin, evAsK_eq, evAs_congr h]
  case max l => simp only [CO.args] at h; simp only [evOp, opMax, evAsK_eq, evAs_congr h]
  case callV f l =>
    simp only [CO.args, List.mem_cons] at h
    simp only [evOp, opCallV, evAK_eq, evAsK_eq, evAs_congr fun x hx => h x (.inr hx), h f (.inl rfl)]
  case sliceStr x l hi =>
    simp only [CO.args, List.mem_cons, List.mem_append] at h
    simp only [evOp, opSliceStr, evAK_eq, h x (.inl rfl), optB_congr fun x hx => h x (.inr (.inl hx)), optB_congr fun x hx => h x (.inr (.inr hx))]
  case sliceSl e x l hi m =>
    simp only [CO.args, List.mem_cons, List.mem_append] at h
    have h1 : ∀ y ∈ optA l, evA tm y = evA tm' y := fun x hx => h x (.inr (.inl hx))
    have h2 : ∀ y ∈ optA hi, evA tm y = evA tm' y := fun x hx => h x (.inr (.inr (.inl hx)))
    have h3 : ∀ y ∈ optA m, evA tm y = evA tm' y := fun x hx => h x (.inr (.inr (.inr hx)))
    cases m with
    | none => simp only [evOp, opSliceSl, evAK_eq, h x (.inl rfl), sliceOf_congr h1 h2, sliceNil_congr h1 h2 h3]
    | some m => simp only [evOp, opSliceSl, evAK_eq, h x (.inl rfl), sliceOf_congr h1 h2, sliceNil_congr h1 h2 h3, h3 m (by simp [optA])]
  case sliceArr n e x l hi m =>
    simp only [CO.args, List.mem_cons, List.mem_append] at h
    have h1 : ∀ y ∈ optA l, evA tm y = evA tm' y := fun x hx => h x (.inr (.inl hx))
    have h2 : ∀ y ∈ optA hi, evA tm y = evA tm' y := fun x hx => h x (.inr (.inr (.inl hx)))
    simp only [evOp, opSliceArr, evAK_eq, h x (.inl rfl), sliceOf_congr h1 h2]
  all_goals
    simp only [CO.args, List.mem_cons, List.not_mem_nil, or_false, forall_eq_or_imp, forall_eq] at h
    first
      | rfl
      | simp only [evOp, opMv, opPick, opBox, opLoad1, opLoadN, opStore, opNilCheck, opBin, opEql, opUn, opConvInt, opSame, opStrOfBytes, opBytesOfStr, opStrOfInt, opMkIface, opMkSlice, opFieldAddr, opField, opIdxAddrArr, opIdxAddrSl, opIdxArr, opIdxStr, opLookup, opMapUpd, opRange, opNext, opEntry, opExtract, opAppend, opCopy, opDelete, opClear, opLenStr, opLenSl, opLenMap, opCapSl, opSliceData, opUnsafeStr, opTyAssert, opUnsafeTo, opUnsafeFrom, evAK_eq, h]
structure Same (st st' : St) : Prop where
  heap : st'.heap = st.heap
  next : st'.next = st.next
  low : st'.low = st.low
theorem Same.refl (st : St) : Same st st := ⟨rfl, rfl, rfl⟩
theorem ok_same {w : AV} {s : St} (h : (Except.ok (w, s) : M (AV × St)) = .ok (v, st')) (m : Same st s) : Same st st' := (ok_inj h).2 ▸ m
theorem err_same {s : String} (h : (err s : M (AV × St)) = .ok (v, st')) : Same st st' := by cases h
theorem minmax_same (lt : Bool) : ∀ (l : List AV) (x : AV), minmax lt st x l = .ok (v, st') → Same st st' := by
  intro l
  induction l with
  | nil => intro x h; cases x <;> (simp only [minmax] at h; exact ok_same h (Same.refl _))
  | cons y l ih =>
    intro x h
    cases x <;> (try (simp only [minmax] at h)) <;> try (exact err_same h)
    cases y <;> (try (simp only [minmax] at h)) <;> try (exact err_same h)
    repeat' split at h
    all_goals first
      | exact ih _ h
      | exact err_same h
theorem notA_same {x : AV} (h : notA st x = .ok (v, st')) : Same st st' := by
  unfold notA at h
  repeat' split at h
  all_goals first
    | exact ok_same h (Same.refl _)
    | exact err_same h
theorem retEq_same {b : Bool} {x : M AV} (h : retEq b st x = .ok (v, st')) : Same st st' := by
  unfold retEq at h
  repeat' split at h
  all_goals first
    | (cases h; done)
    | exact ok_same h (Same.refl _)
    | exact err_same h
theorem evBin_same {op : BinOp} {x y : AV} (h : evBin op x y st = .ok (v, st')) : Same st st' := by
  simp only [evBin, binInt, binSym, binStr, evStr, symBin, strAdd, retI, retB, forceN_eq, forceI_eq] at h
  repeat' split at h
  all_goals first
    | (cases h; done)
    | exact ok_same h (Same.refl _)
    | exact err_same h
    | (simp only [forceN_eq, forceI_eq] at h; exact ok_same h (Same.refl _))
theorem pick_same {X A B : AV} (h : (decK X st fun d st => match d with | true => .ok (A, st) | false => .ok (B, st) : M (AV × St)) = .ok (v, st')) : Same st st' := by
  unfold decK at h
  cases X <;> (try simp only at h) <;> try (cases h; done)
  case bool b => cases b <;> exact ok_same h (Same.refl _)
  case sbool s =>
    obtain ⟨hp, nx, lo, sc, tr⟩ := st
    cases sc with
    | nil => simp only at h; cases h
    | cons d sc =>
      simp only at h
      cases d <;> exact ok_same h ⟨rfl, rfl, rfl⟩
theorem evOp_same {co : CO} (h0 : opClass co = 0) (h : evOp co tm st call = .ok (v, st')) : Same st st' := by
  cases co <;> (first | (cases h0; done) | skip)
  all_goals simp only [evOp, opMv, opPick, opBuild, opNilCheck, opBin, opEql, opUn, opConvInt, opSame, opStrOfInt, opMkIface, opMkFunc, opSliceStr, opSliceSl, opFieldAddr, opField, opIdxAddrArr, opIdxAddrSl, opIdxArr, opIdxStr, opExtract, opLenStr, opLenSl, opLenArr, opCapSl, opMin, opMax, opSliceData, opTyAssert, opBad, sliceOf, sliceNil, retI, retB, retL, evAK_eq, evAsK_eq, forceN_eq, forceI_eq] at h
  all_goals (repeat' split at h)
  all_goals first
    | (cases h; done)
    | exact err_same h
    | exact ok_same h (Same.refl _)
    | exact evBin_same h
    | exact retEq_same h
    | exact notA_same h
    | exact minmax_same _ _ _ h
    | skip
  all_goals exact pick_same h
theorem asLoad_ev {co : CO} {x : CA} {n : Option Nat} (h : asLoad co = some (x, n)) : evOp co tm st call = retL st (loadAt st.heap (evA tm x) n) ∧ co.args = [x] := by
  cases co <;> simp only [asLoad, Option.some.injEq, Prod.mk.injEq, reduceCtorEq] at h
  case load1 y => obtain ⟨rfl, rfl⟩ := h; exact ⟨by simp only [evOp, opLoad1, evAK_eq], rfl⟩
  case loadN m y => obtain ⟨rfl, rfl⟩ := h; exact ⟨by simp only [evOp, opLoadN, evAK_eq], rfl⟩
mutual
theorem AV.beq_eq : ∀ {a b : AV}, a.beq b = true → a = b
  | .bool a, .bool b, h => by simp only [AV.beq, beq_iff_eq] at h; rw [h]
  | .sbool a, .sbool b, h => by simp only [AV.beq, decide_eq_true_eq] at h; rw [h]
  | .int k a, .int j b, h => by simp only [AV.beq, Bool.and_eq_true, decide_eq_true_eq] at h; rw [h.1, h.2]
  | .sint k a, .sint j b, h => by simp only [AV.beq, Bool.and_eq_true, decide_eq_true_eq] at h; rw [h.1, h.2]
  | .str n a, .str m b, h => by simp only [AV.beq, Bool.and_eq_true] at h; rw [beq_true h.1, beq_true h.2]
  | .nilptr, .nilptr, _ => rfl
  | .ptr a b, .ptr c d, h => by simp only [AV.beq, Bool.and_eq_true] at h; rw [beq_true h.1, beq_true h.2]
  | .nilslice, .nilslice, _ => rfl
  | .slice a b c d x e, .slice a' b' c' d' x' e', h => by
    simp only [AV.beq, Bool.and_eq_true, beq_iff_eq] at h
    obtain ⟨⟨⟨⟨⟨h1, h2⟩, h3⟩, h4⟩, h5⟩, h6⟩ := h
    rw [beq_true h1, beq_true h2, beq_true h3, beq_true h4, h5, beq_true h6]
  | .nilmap, .nilmap, _ => rfl
  | .map a, .map b, h => by simp only [AV.beq] at h; rw [beq_true h]
  | .func f a b, .func g c d, h => by
    simp only [AV.beq, Bool.and_eq_true, decide_eq_true_eq] at h
    rw [h.1.1, AV.beqs_eq h.1.2, AV.beqs_eq h.2]
  | .nilFunc, .nilFunc, _ => rfl
  | .iface t v, .iface u w, h => by simp only [AV.beq, Bool.and_eq_true] at h; rw [beq_true h.1, AV.beq_eq h.2]
  | .nilIface, .nilIface, _ => rfl
  | .agg a, .agg b, h => by simp only [AV.beq] at h; rw [AV.beqs_eq h]
  | .tuple a, .tuple b, h => by simp only [AV.beq] at h; rw [AV.beqs_eq h]
theorem AV.beqs_eq : ∀ {a b : List AV}, AV.beqs a b = true → a = b
  | [], [], _ => rfl
  | a :: l, b :: m, h => by simp only [AV.beqs, Bool.and_eq_true] at h; rw [AV.beq_eq h.1, AV.beqs_eq h.2]
end
end
end Go.Ab

namespace Go.Ab
theorem within_bit {a b i : Nat} (h : within a b = true) (hi : a.testBit i = true) : b.testBit i = true := by
  have h1 : a &&& b = a := beq_true h
  have h2 : (a &&& b).testBit i = true := by rw [h1]; exact hi
  rw [Nat.testBit_and, hi, Bool.true_and] at h2
  exact h2
theorem beq_false' {a b : Nat} (h : Nat.beq a b = false) : a ≠ b := fun c => by rw [c, show Nat.beq b b = true from Nat.beq_refl b] at h; cases h
theorem addAll_get : ∀ {l : News} {h : T AObj} {id : Nat} {o : AObj}, (addAll h l).get id = some o → (id, o) ∈ l ∨ h.get id = some o := by
  intro l
  induction l with
  | nil => intro h id o hg; exact .inr hg
  | cons p l ih =>
    intro h id o hg
    obtain ⟨i, x⟩ := p
    simp only [addAll] at hg
    rcases ih hg with h1 | h1
    · exact .inl (List.mem_cons_of_mem _ h1)
    · rw [T.get_set] at h1
      by_cases e : id = i
      · rw [if_pos e] at h1; injection h1 with h1; subst h1; subst e; exact .inl (by simp)
      · rw [if_neg e] at h1; exact .inr h1
theorem heapFor_get {anc : Nat} : ∀ {p : List (Nat × News)} {base : T AObj} {id : Nat} {o : AObj}, (heapFor base anc p).get id = some o → (∃ i l, (i, l) ∈ p ∧ anc.testBit i = true ∧ (id, o) ∈ l) ∨ base.get id = some o := by
  intro p
  induction p with
  | nil => intro base id o h; exact .inr h
  | cons q p ih =>
    intro base id o h
    obtain ⟨i, l⟩ := q
    simp only [heapFor] at h
    split at h
    · rename_i hb
      rcases ih h with ⟨j, m, h1, h2, h3⟩ | h1
      · exact .inl ⟨j, m, List.mem_cons_of_mem _ h1, h2, h3⟩
      · rcases addAll_get h1 with h2 | h2
        · exact .inl ⟨i, l, by simp, hb, h2⟩
        · exact .inr h2
    · rcases ih h with ⟨j, m, h1, h2, h3⟩ | h1
      · exact .inl ⟨j, m, List.mem_cons_of_mem _ h1, h2, h3⟩
      · exact .inr h1
theorem heapAll_get : ∀ {p : List (Nat × News)} {base : T AObj} {id : Nat} {o : AObj}, (heapAll base p).get id = some o → (∃ i l, (i, l) ∈ p ∧ (id, o) ∈ l) ∨ base.get id = some o := by
  intro p
  induction p with
  | nil => intro base id o h; exact .inr h
  | cons q p ih =>
    intro base id o h
    obtain ⟨i, l⟩ := q
    simp only [heapAll] at h
    rcases ih h with ⟨j, m, h1, h3⟩ | h1
    · exact .inl ⟨j, m, List.mem_cons_of_mem _ h1, h3⟩
    · rcases addAll_get h1 with h2 | h2
      · exact .inl ⟨i, l, by simp, h2⟩
      · exact .inr h2
theorem pendRest_mem {anc : Nat} : ∀ {p : List (Nat × News)} {i : Nat} {l : News}, (i, l) ∈ pendRest anc p → (i, l) ∈ p ∧ anc.testBit i = false := by
  intro p
  induction p with
  | nil => intro i l h; cases h
  | cons q p ih =>
    intro i l h
    obtain ⟨j, m⟩ := q
    simp only [pendRest] at h
    split at h
    · obtain ⟨a, b⟩ := ih h; exact ⟨List.mem_cons_of_mem _ a, b⟩
    · rename_i hb
      rcases List.mem_cons.1 h with h | h
      · injection h with h1 h2; subst h1; subst h2; exact ⟨by simp, hb⟩
      · obtain ⟨a, b⟩ := ih h; exact ⟨List.mem_cons_of_mem _ a, b⟩
theorem collect_mem {h : T AObj} : ∀ {n i id : Nat} {o : AObj}, (id, o) ∈ collect h i n → h.get id = some o ∧ i ≤ id ∧ id < i + n := by
  intro n
  induction n with
  | zero => intro i id o h; cases h
  | succ n ih =>
    intro i id o hm
    simp only [collect] at hm
    split at hm
    · rename_i x hx
      rcases List.mem_cons.1 hm with hm | hm
      · injection hm with h1 h2; subst h1; subst h2; exact ⟨hx, Nat.le_refl _, by omega⟩
      · obtain ⟨a, b, c⟩ := ih hm; exact ⟨a, by omega, by omega⟩
    · obtain ⟨a, b, c⟩ := ih hm; exact ⟨a, by omega, by omega⟩
theorem newsOf_mem {i : Nat} {v : AV} {h : T AObj} {n n' : Nat} {p : List (Nat × News)} {j : Nat} {l : News} (hm : (j, l) ∈ newsOf i v h n n' p) : (j, l) ∈ p ∨ (j = i ∧ l = collect h n (n' - n)) := by
  unfold newsOf at hm
  split at hm
  · exact .inl hm
  · rcases List.mem_cons.1 hm with hm | hm
    · injection hm with h1 h2; exact .inr ⟨h1, h2⟩
    · exact .inl hm
noncomputable def DR.st (s : DR) (h : T AObj) (low : Nat) : St := { heap := h, next := s.next, low := low, sc := s.sc, tr := s.tr }
inductive Kd where
  | quiet
  | load
  | alloc
  | soft
  | hard
  deriving DecidableEq
inductive DOp (call : CallV) (i : Nat) (o : COper) (s : DR) : Kd → AV → DR → Prop
  | pure (v : AV) (st : St) (h0 : opClass o.op = 0) (h : evOp o.op s.tm (s.st .leaf s.low) call = .ok (v, st)) : DOp call i o s .quiet v { s with sc := st.sc, tr := st.tr }
  | alloc (v : AV) (st : St) (h : evOp o.op s.tm (s.st .leaf s.next) call = .ok (v, st)) (hl : s.next ≤ st.low) :
    DOp call i o s .alloc v { s with pend := newsOf i v st.heap s.next st.next s.pend, next := st.next, sc := st.sc, tr := st.tr }
  | load (x : CA) (n : Option Nat) (v : AV) (ha : asLoad o.op = some (x, n)) (h : loadAt s.base (evA s.tm x) n = some v) :
    DOp call i o s .load v { s with loads := { j := i, anc := o.anc, p := evA s.tm x, n := n, v := v } :: s.loads }
  | soft (v : AV) (st : St) (h : evOp o.op s.tm (s.st (heapFor s.base o.anc s.pend) s.next) call = .ok (v, st)) (hw : within s.hmask o.anc = true) (hl : s.next ≤ st.low) :
    DOp call i o s .soft v { s with pend := newsOf i v st.heap s.next st.next s.pend, softs := Nat.lor s.softs (Nat.pow 2 i), next := st.next, sc := st.sc, tr := st.tr }
  | hard (v : AV) (st : St) (h : evOp o.op s.tm (s.st (heapFor s.base o.anc s.pend) s.next) call = .ok (v, st)) (hw : within s.hmask o.anc = true) (hs : within s.softs o.anc = true) :
    DOp call i o s .hard v { s with
          base := st.heap, bases := s.base :: s.bases, pend := pendRest o.anc s.pend, softs := 0, hmask := Nat.lor s.hmask (Nat.pow 2 i), hards := (i, o.anc) :: s.hards,
          next := st.next, low := lowered s.low st.low, sc := st.sc, tr := st.tr }
section
variable {call : CallV} {i : Nat} {o : COper} {s s' : DR} {v : AV}
theorem evMany_DOp (h : evMany call i o s = .ok (v, s')) : ∃ k, DOp call i o s k v s' := by
  unfold evMany at h
  split at h
  · cases h
  · rename_i v1 st1 he
    split at h
    · cases h
    · rename_i hw
      split at h
      · rename_i hl
        simp only [Except.ok.injEq, Prod.mk.injEq] at h
        obtain ⟨rfl, rfl⟩ := h
        exact ⟨.soft, .soft _ _ he hw (Nat.le_of_ble_eq_true hl)⟩
      · split at h
        · cases h
        · rename_i hs
          simp only [Except.ok.injEq, Prod.mk.injEq] at h
          obtain ⟨rfl, rfl⟩ := h
          exact ⟨.hard, .hard _ _ he hw hs⟩
theorem evDrawOp_DOp (h : evDrawOp call i o s = .ok (v, s')) : ∃ k, DOp call i o s k v s' := by
  unfold evDrawOp at h
  split at h
  · rename_i h0
    unfold evPureR at h
    split at h
    · cases h
    · rename_i v1 st1 he
      simp only [Except.ok.injEq, Prod.mk.injEq] at h
      obtain ⟨rfl, rfl⟩ := h
      exact ⟨.quiet, .pure _ _ h0 he⟩
  · unfold evAlloc at h
    split at h
    · cases h
    · rename_i v1 st1 he
      split at h
      · rename_i hl
        simp only [Except.ok.injEq, Prod.mk.injEq] at h
        obtain ⟨rfl, rfl⟩ := h
        exact ⟨.alloc, .alloc _ _ he (Nat.le_of_ble_eq_true hl)⟩
      · cases h
  · split at h
    · rename_i x n ha
      unfold evLoadR at h
      split at h
      · rename_i v1 hl
        simp only [Except.ok.injEq, Prod.mk.injEq] at h
        obtain ⟨rfl, rfl⟩ := h
        exact ⟨.load, .load x n _ ha hl⟩
      · exact evMany_DOp h
    · exact evMany_DOp h
end
inductive DStep (call : CallV) (i : Nat) (o : COper) (s : DR) : Kd → AV → DR → Prop
  | skip (st1 : St) (h : wantK o.guard s.tm (s.st .leaf s.low) (fun b st => .ok (b, st)) = .ok (false, st1)) : DStep call i o s .quiet undef { s with tm := putD s.tm o.dst undef, sc := st1.sc, tr := st1.tr }
  | run (st1 : St) (k : Kd) (v : AV) (s1 : DR) (h : wantK o.guard s.tm (s.st .leaf s.low) (fun b st => .ok (b, st)) = .ok (true, st1)) (hd : DOp call i o { s with sc := st1.sc, tr := st1.tr } k v s1) :
    DStep call i o s k v { s1 with tm := putD s1.tm o.dst v }
theorem wantK_split {β : Type} {g : Option (CA × Bool)} {tm : T AV} {st : St} {K : Bool → St → M β} {r : β} (h : wantK g tm st K = .ok r) :
    ∃ b st1, wantK g tm st (fun b st => .ok (b, st)) = .ok (b, st1) ∧ K b st1 = .ok r := by
  unfold wantK at h ⊢
  split at h
  · exact ⟨true, st, rfl, h⟩
  · rename_i x want
    simp only [evAK_eq] at h ⊢
    unfold wantV at h ⊢
    split at h
    · exact ⟨_, st, rfl, h⟩
    · unfold decK at h ⊢
      simp only at h ⊢
      split at h
      · exact ⟨_, _, rfl, h⟩
      · cases h
    · cases h
    · exact ⟨false, st, rfl, h⟩
theorem evDraw_trace {call : CallV} : ∀ (l : List COper) (i : Nat) (s s' : DR), evDraw call l i s = .ok s' →
    ∃ (S : Nat → DR) (K : Nat → Kd) (V : Nat → AV), S i = s ∧ S (i + l.length) = s' ∧ ∀ k o, l[k]? = some o → DStep call (i + k) o (S (i + k)) (K (i + k)) (V (i + k)) (S (i + k + 1)) := by
  intro l
  induction l with
  | nil => intro i s s' h; simp only [evDraw, Except.ok.injEq] at h; subst h; exact ⟨fun _ => s, fun _ => .quiet, fun _ => undef, rfl, rfl, fun k o h => by simp at h⟩
  | cons o l ih =>
    intro i s s' h
    have key : ∃ k v s1, DStep call i o s k v s1 ∧ evDraw call l (i + 1) s1 = .ok s' := by
      simp only [evDraw] at h
      obtain ⟨b, st1, hw, hk⟩ := wantK_split h
      cases b with
      | false => simp only [putK_eq] at hk; exact ⟨.quiet, undef, _, .skip st1 hw, hk⟩
      | true =>
        simp only at hk
        split at hk
        · rename_i v s1 he
          simp only [putK_eq] at hk
          obtain ⟨k, hd⟩ := evDrawOp_DOp he
          exact ⟨k, v, _, .run st1 k v s1 hw hd, hk⟩
        · cases hk
    obtain ⟨k, v, s1, hst, hrest⟩ := key
    obtain ⟨S, K, V, h0, h1, h2⟩ := ih (i + 1) s1 s' hrest
    refine ⟨fun j => if j ≤ i then s else S j, fun j => if j = i then k else K j, fun j => if j = i then v else V j, by simp, ?_, fun n p hp => ?_⟩
    · simp only [List.length_cons]
      rw [if_neg (by omega), ← h1]
      congr 1; omega
    · cases n with
      | zero =>
        simp only [List.getElem?_cons_zero, Option.some.injEq] at hp
        subst hp
        simp only [Nat.add_zero, Nat.le_refl, if_true]
        rw [if_neg (by omega), h0]
        exact hst
      | succ n =>
        simp only [List.getElem?_cons_succ] at hp
        have := h2 n p hp
        dsimp only
        rw [if_neg (by omega), if_neg (by omega), if_neg (by omega), if_neg (by omega)]
        have e : i + (n + 1) = i + 1 + n := by omega
        rw [e]; exact this
end Go.Ab

namespace Go.Ab
structure Tr (call : CallV) (cops : List COper) (S : Nat → DR) (K : Nat → Kd) (V : Nat → AV) : Prop where
  step : ∀ i o, cops[i]? = some o → DStep call i o (S i) (K i) (V i) (S (i + 1))
  pend0 : (S 0).pend = []
  hards0 : (S 0).hards = []
  bases0 : (S 0).bases = []
def ancAt (cops : List COper) (i : Nat) : Nat := (cops[i]?.map (·.anc)).getD 0
def dstAt (cops : List COper) (i : Nat) : Option Nat := (cops[i]?).bind (·.dst)
theorem ancAt_eq {cops : List COper} {i : Nat} {o : COper} (h : cops[i]? = some o) : ancAt cops i = o.anc := by simp [ancAt, h]
theorem dstAt_eq {cops : List COper} {i : Nat} {o : COper} (h : cops[i]? = some o) : dstAt cops i = o.dst := by simp [dstAt, h]
section
variable {call : CallV} {cops : List COper} {S : Nat → DR} {K : Nat → Kd} {V : Nat → AV}
theorem get_lt {i : Nat} (h : i < cops.length) : ∃ o, cops[i]? = some o := ⟨cops[i], List.getElem?_eq_getElem h⟩
theorem Tr.quiet (T : Tr call cops S K V) {i : Nat} (hi : i < cops.length) (hk : K i = .quiet ∨ K i = .load) :
    (S (i + 1)).base = (S i).base ∧ (S (i + 1)).bases = (S i).bases ∧ (S (i + 1)).pend = (S i).pend ∧ (S (i + 1)).softs = (S i).softs ∧ (S (i + 1)).hmask = (S i).hmask ∧ (S (i + 1)).hards = (S i).hards ∧ (S (i + 1)).next = (S i).next := by
  obtain ⟨o, ho⟩ := get_lt hi
  have := T.step i o ho
  generalize K i = k at *
  generalize V i = v at *
  generalize S (i + 1) = s' at *
  generalize S i = s at *
  cases this with
  | skip => exact ⟨rfl, rfl, rfl, rfl, rfl, rfl, rfl⟩
  | run st1 _ _ s1 hw hd =>
    cases hd <;> first | exact ⟨rfl, rfl, rfl, rfl, rfl, rfl, rfl⟩ | (exfalso; rcases hk with hk | hk <;> cases hk)
theorem Tr.notHard (T : Tr call cops S K V) {i : Nat} (hi : i < cops.length) (hk : K i ≠ .hard) :
    (S (i + 1)).base = (S i).base ∧ (S (i + 1)).bases = (S i).bases ∧ (S (i + 1)).hmask = (S i).hmask ∧ (S (i + 1)).hards = (S i).hards ∧ (∀ j, (S i).softs.testBit j = true → (S (i + 1)).softs.testBit j = true) := by
  obtain ⟨o, ho⟩ := get_lt hi
  have := T.step i o ho
  generalize K i = k at *
  generalize V i = v at *
  generalize S (i + 1) = s' at *
  generalize S i = s at *
  cases this with
  | skip => exact ⟨rfl, rfl, rfl, rfl, fun _ h => h⟩
  | run st1 _ _ s1 hw hd =>
    cases hd with
    | hard => exact absurd rfl hk
    | soft => exact ⟨rfl, rfl, rfl, rfl, fun j h => by show (s.softs ||| 2 ^ i).testBit j = true; rw [Nat.testBit_or, h]; rfl⟩
    | _ => exact ⟨rfl, rfl, rfl, rfl, fun _ h => h⟩
theorem Tr.isHard (T : Tr call cops S K V) {i : Nat} (hi : i < cops.length) (hk : K i = .hard) :
    (S (i + 1)).bases = (S i).base :: (S i).bases ∧ (S (i + 1)).hmask = Nat.lor (S i).hmask (Nat.pow 2 i) ∧ (S (i + 1)).hards = (i, ancAt cops i) :: (S i).hards ∧ (S (i + 1)).pend = pendRest (ancAt cops i) (S i).pend ∧
      within (S i).hmask (ancAt cops i) = true ∧ within (S i).softs (ancAt cops i) = true := by
  obtain ⟨o, ho⟩ := get_lt hi
  have := T.step i o ho
  rw [ancAt_eq ho]
  generalize K i = k at *
  generalize V i = v at *
  generalize S (i + 1) = s' at *
  generalize S i = s at *
  cases this with
  | skip => cases hk
  | run st1 _ _ s1 hw hd =>
    cases hd <;> first | exact ⟨rfl, rfl, rfl, rfl, by assumption, by assumption⟩ | (exfalso; cases hk)
theorem Tr.isSoft (T : Tr call cops S K V) {i : Nat} (hi : i < cops.length) (hk : K i = .soft) :
    (S (i + 1)).softs = Nat.lor (S i).softs (Nat.pow 2 i) ∧ within (S i).hmask (ancAt cops i) = true := by
  obtain ⟨o, ho⟩ := get_lt hi
  have := T.step i o ho
  rw [ancAt_eq ho]
  generalize K i = k at *
  generalize V i = v at *
  generalize S (i + 1) = s' at *
  generalize S i = s at *
  cases this with
  | skip => cases hk
  | run st1 _ _ s1 hw hd =>
    cases hd <;> first | exact ⟨rfl, by assumption⟩ | (exfalso; cases hk)
theorem Tr.pendStep (T : Tr call cops S K V) {i : Nat} (hi : i < cops.length) {j : Nat} {l : News} (h : (j, l) ∈ (S (i + 1)).pend) :
    ((j, l) ∈ (S i).pend ∧ (K i = .hard → (ancAt cops i).testBit j = false)) ∨ (j = i ∧ (K i = .alloc ∨ K i = .soft) ∧ ∃ hp, l = collect hp (S i).next ((S (i + 1)).next - (S i).next)) := by
  obtain ⟨o, ho⟩ := get_lt hi
  have := T.step i o ho
  rw [ancAt_eq ho]
  generalize K i = k at *
  generalize V i = v at *
  generalize S (i + 1) = s' at *
  generalize S i = s at *
  cases this with
  | skip => exact .inl ⟨h, fun c => by cases c⟩
  | run st1 _ _ s1 hw hd =>
    cases hd with
    | hard => obtain ⟨a, b⟩ := pendRest_mem h; exact .inl ⟨a, fun _ => b⟩
    | pure => exact .inl ⟨h, fun c => by cases c⟩
    | load => exact .inl ⟨h, fun c => by cases c⟩
    | alloc v st =>
      rcases newsOf_mem h with h | ⟨rfl, rfl⟩
      · exact .inl ⟨h, fun c => by cases c⟩
      · exact .inr ⟨rfl, .inl rfl, _, rfl⟩
    | soft v st =>
      rcases newsOf_mem h with h | ⟨rfl, rfl⟩
      · exact .inl ⟨h, fun c => by cases c⟩
      · exact .inr ⟨rfl, .inr rfl, _, rfl⟩
theorem Tr.pend (T : Tr call cops S K V) : ∀ j, j ≤ cops.length → ∀ k l, (k, l) ∈ (S j).pend → k < j ∧ (k, l) ∈ (S (k + 1)).pend ∧ ∀ h, k < h → h < j → K h = .hard → (ancAt cops h).testBit k = false := by
  intro j
  induction j with
  | zero => intro _ k l h; rw [T.pend0] at h; cases h
  | succ j ih =>
    intro hj k l h
    rcases T.pendStep (by omega) h with ⟨h1, h2⟩ | ⟨rfl, h2, _⟩
    · obtain ⟨a, b, c⟩ := ih (by omega) k l h1
      refine ⟨by omega, b, fun x hx hxj hk => ?_⟩
      by_cases e : x = j
      · subst e; exact h2 hk
      · exact c x hx (by omega) hk
    · exact ⟨by omega, h, fun x hx hxj => by omega⟩
def NewsAt (S : Nat → DR) (i id : Nat) (o : AObj) : Prop := ∃ l, (i, l) ∈ (S (i + 1)).pend ∧ (id, o) ∈ l
theorem Tr.news (T : Tr call cops S K V) {i : Nat} (hi : i < cops.length) {id : Nat} {o : AObj} (h : NewsAt S i id o) : (K i = .alloc ∨ K i = .soft) ∧ (S i).next ≤ id ∧ id < (S (i + 1)).next := by
  obtain ⟨l, hl, ho⟩ := h
  rcases T.pendStep hi hl with ⟨h1, _⟩ | ⟨_, h2, hp, rfl⟩
  · exact absurd (T.pend i (by omega) _ _ h1).1 (Nat.lt_irrefl _)
  · obtain ⟨_, a, b⟩ := collect_mem ho; exact ⟨h2, a, by omega⟩
theorem Tr.base (T : Tr call cops S K V) {a : Nat} : ∀ b, a ≤ b → b ≤ cops.length → (∀ h, a ≤ h → h < b → K h ≠ .hard) → (S b).base = (S a).base := by
  intro b
  induction b with
  | zero => intro h _ _; obtain rfl : a = 0 := by omega
            rfl
  | succ b ih =>
    intro h hb hh
    by_cases e : a = b + 1
    · rw [e]
    · rw [(T.notHard (i := b) (by omega) (hh b (by omega) (by omega))).1, ih (by omega) (by omega) fun x hx hxb => hh x hx (by omega)]
theorem Tr.hmask (T : Tr call cops S K V) {h : Nat} (hk : K h = .hard) : ∀ j, h < j → j ≤ cops.length → (S j).hmask.testBit h = true := by
  intro j
  induction j with
  | zero => intro h1; omega
  | succ j ih =>
    intro h1 h2
    by_cases e : K j = .hard
    · rw [(T.isHard (by omega) e).2.1]
      show ((S j).hmask ||| 2 ^ j).testBit h = true
      rw [Nat.testBit_or]
      by_cases e' : h = j
      · subst e'; simp
      · rw [ih (by omega) (by omega)]; rfl
    · rw [(T.notHard (by omega) e).2.2.1]
      exact ih (by rcases Nat.lt_succ_iff_lt_or_eq.1 h1 with h | h
                   · exact h
                   · subst h; exact absurd hk e) (by omega)
theorem Tr.soft (T : Tr call cops S K V) {i : Nat} (hk : K i = .soft) : ∀ j, i < j → j ≤ cops.length → (∀ h, i < h → h < j → K h ≠ .hard) → (S j).softs.testBit i = true := by
  intro j
  induction j with
  | zero => intro h1; omega
  | succ j ih =>
    intro h1 h2 h3
    by_cases e : i = j
    · subst e
      rw [(T.isSoft (by omega) hk).1]
      show ((S i).softs ||| 2 ^ i).testBit i = true
      rw [Nat.testBit_or]; simp
    · exact (T.notHard (by omega) (h3 j (by omega) (by omega))).2.2.2.2 i (ih (by omega) (by omega) fun x hx hxj => h3 x hx (by omega))
theorem Tr.hards (T : Tr call cops S K V) {c : Nat} : ∀ j, c ≤ j → j ≤ cops.length → ∃ X, (S j).hards = X ++ (S c).hards ∧ ∀ p ∈ X, c ≤ p.1 ∧ p.1 < j ∧ K p.1 = .hard ∧ p.2 = ancAt cops p.1 := by
  intro j
  induction j with
  | zero => intro h1 _; obtain rfl : c = 0 := by omega
            exact ⟨[], rfl, fun p hp => by cases hp⟩
  | succ j ih =>
    intro h1 h2
    by_cases e : c = j + 1
    · subst e; exact ⟨[], rfl, fun p hp => by cases hp⟩
    · obtain ⟨X, hX, hp⟩ := ih (by omega) (by omega)
      by_cases hk : K j = .hard
      · refine ⟨(j, ancAt cops j) :: X, by rw [(T.isHard (by omega) hk).2.2.1, hX]; rfl, fun p hp' => ?_⟩
        rcases List.mem_cons.1 hp' with rfl | hp'
        · exact ⟨by simp only; omega, by simp, hk, rfl⟩
        · obtain ⟨a, b, c⟩ := hp p hp'; exact ⟨a, by omega, c⟩
      · refine ⟨X, by rw [(T.notHard (by omega) hk).2.2.2.1, hX], fun p hp' => ?_⟩
        obtain ⟨a, b, c⟩ := hp p hp'; exact ⟨a, by omega, c⟩
theorem Tr.hardsOf (T : Tr call cops S K V) {j : Nat} (hj : j ≤ cops.length) {p : Nat × Nat} (h : p ∈ (S j).hards) : p.1 < j ∧ K p.1 = .hard ∧ p.2 = ancAt cops p.1 := by
  obtain ⟨X, hX, hp⟩ := T.hards (c := 0) j (Nat.zero_le _) hj
  rw [T.hards0, List.append_nil] at hX
  rw [hX] at h
  exact (hp p h).2
theorem Tr.bases (T : Tr call cops S K V) {c : Nat} : ∀ j, c ≤ j → j ≤ cops.length → (S j).bases.length = (S j).hards.length ∧ ((S j).bases.reverse ++ [(S j).base])[(S c).hards.length]? = some (S c).base := by
  have len : ∀ j, j ≤ cops.length → (S j).bases.length = (S j).hards.length := by
    intro j
    induction j with
    | zero => intro _; rw [T.bases0, T.hards0]; rfl
    | succ j ih =>
      intro hj
      by_cases hk : K j = .hard
      · have := T.isHard (i := j) (by omega) hk
        rw [this.1, this.2.2.1]; simp [ih (by omega)]
      · have := T.notHard (i := j) (by omega) hk
        rw [this.2.1, this.2.2.2.1]; exact ih (by omega)
  intro j
  induction j with
  | zero => intro h1 _; obtain rfl : c = 0 := by omega
            exact ⟨len 0 (Nat.zero_le _), by rw [T.bases0, T.hards0]; rfl⟩
  | succ j ih =>
    intro h1 h2
    refine ⟨len _ h2, ?_⟩
    by_cases e : c = j + 1
    · subst e
      rw [← len _ h2, List.getElem?_append_right (by simp)]; simp
    · obtain ⟨hl, hb⟩ := ih (by omega) (by omega)
      by_cases hk : K j = .hard
      · rw [(T.isHard (i := j) (by omega) hk).1]
        simp only [List.reverse_cons, List.append_assoc]
        have hlt : (S c).hards.length < ((S j).bases.reverse ++ [(S j).base]).length := (List.getElem?_eq_some_iff.1 hb).1
        rw [← List.append_assoc, List.getElem?_append_left hlt]; exact hb
      · have := T.notHard (i := j) (by omega) hk
        rw [this.2.1, this.1]; exact hb
theorem Tr.loads (T : Tr call cops S K V) {i : Nat} {o : COper} (ho : cops[i]? = some o) (hk : K i = .load) : ∃ x n, asLoad o.op = some (x, n) ∧ loadAt (S i).base (evA (S i).tm x) n = some (V i) ∧
    ∀ j, i < j → j ≤ cops.length → { j := i, anc := o.anc, p := evA (S i).tm x, n := n, v := V i } ∈ (S j).loads := by
  have hi : i < cops.length := (List.getElem?_eq_some_iff.1 ho).1
  have h1 : ∃ x n, asLoad o.op = some (x, n) ∧ loadAt (S i).base (evA (S i).tm x) n = some (V i) ∧ { j := i, anc := o.anc, p := evA (S i).tm x, n := n, v := V i } ∈ (S (i + 1)).loads := by
    have := T.step i o ho
    generalize K i = k at *
    generalize S (i + 1) = s' at *
    generalize V i = v at *
    generalize S i = s at *
    cases this with
    | skip => cases hk
    | run st1 _ _ s1 hw hd =>
      cases hd with
      | load x n _ ha hl => exact ⟨x, n, ha, hl, by simp⟩
      | _ => cases hk
  obtain ⟨x, n, ha, hl, hm⟩ := h1
  refine ⟨x, n, ha, hl, fun j => ?_⟩
  induction j with
  | zero => intro h; omega
  | succ j ih =>
    intro h1 h2
    by_cases e : i = j
    · subst e; exact hm
    · have hmem := ih (by omega) (by omega)
      obtain ⟨o', ho'⟩ := get_lt (cops := cops) (i := j) (by omega)
      have := T.step j o' ho'
      generalize K j = k at *
      generalize V j = v at *
      generalize S (j + 1) = s' at *
      generalize S j = s at *
      cases this with
      | skip => exact hmem
      | run st1 _ _ s1 hw hd =>
        cases hd with
        | load => exact List.mem_cons_of_mem _ hmem
        | _ => exact hmem
theorem Tr.mono (T : Tr call cops S K V) (cm : CallMono call) {a : Nat} : ∀ b, a ≤ b → b ≤ cops.length → DMono (S a) (S b) := by
  intro b
  induction b with
  | zero => intro h _; obtain rfl : a = 0 := by omega
            exact DMono.refl _
  | succ b ih =>
    intro h1 h2
    by_cases e : a = b + 1
    · subst e; exact DMono.refl _
    · refine (ih (by omega) (by omega)).trans ?_
      obtain ⟨o, ho⟩ := get_lt (cops := cops) (i := b) (by omega)
      have := T.step b o ho
      generalize K b = k at *
      generalize V b = v at *
      generalize S (b + 1) = s' at *
      generalize S b = s at *
      have two : ∀ {l1 l2 l3 : List (SB × Bool)}, l3 = l1 ++ l2 → (∃ l, l2 = l ++ s.tr) → ∃ l, l3 = l ++ s.tr := by
        intro l1 l2 l3 e ⟨l, e'⟩; exact ⟨l1 ++ l, by rw [e, e', List.append_assoc]⟩
      cases this with
      | skip st1 hw =>
        obtain ⟨b, st2, h3, hm⟩ := wantK_mono hw
        simp only [Except.ok.injEq, Prod.mk.injEq] at h3
        obtain ⟨rfl, rfl⟩ := h3
        exact ⟨Nat.le_refl _, Nat.le_refl _, hm.tr⟩
      | run st1 _ _ s1 hw hd =>
        obtain ⟨b, st2, h3, hm⟩ := wantK_mono hw
        simp only [Except.ok.injEq, Prod.mk.injEq] at h3
        obtain ⟨rfl, rfl⟩ := h3
        cases hd with
        | pure v st h0 he => have m := evOp_mono cm he; obtain ⟨l, e⟩ := m.tr; exact ⟨Nat.le_refl _, Nat.le_refl _, two e hm.tr⟩
        | alloc v st he hl => have m := evOp_mono cm he; obtain ⟨l, e⟩ := m.tr; exact ⟨m.next, Nat.le_refl _, two e hm.tr⟩
        | load x n v ha hl => exact ⟨Nat.le_refl _, Nat.le_refl _, hm.tr⟩
        | soft v st he => have m := evOp_mono cm he; obtain ⟨l, e⟩ := m.tr; exact ⟨m.next, Nat.le_refl _, two e hm.tr⟩
        | hard v st he => have m := evOp_mono cm he; obtain ⟨l, e⟩ := m.tr; exact ⟨m.next, (lowered_le _ _).1, two e hm.tr⟩
theorem Tr.tm (T : Tr call cops S K V) (hu : ∀ i j d, dstAt cops i = some d → dstAt cops j = some d → i = j) : ∀ j, j ≤ cops.length → ∀ t,
    (∀ k, k < j → dstAt cops k = some t → evA (S j).tm (.t t) = V k) ∧ ((∀ k, k < j → dstAt cops k ≠ some t) → evA (S j).tm (.t t) = evA (S 0).tm (.t t)) := by
  intro j
  induction j with
  | zero => exact fun _ t => ⟨fun k h => by omega, fun _ => rfl⟩
  | succ j ih =>
    intro hj t
    obtain ⟨h1, h2⟩ := ih (by omega) t
    obtain ⟨o, ho⟩ := get_lt (cops := cops) (i := j) (by omega)
    have hd : dstAt cops j = o.dst := dstAt_eq ho
    have htm : (S (j + 1)).tm = putD (S j).tm o.dst (V j) := by
      have := T.step j o ho
      generalize K j = k at *
      generalize S (j + 1) = s' at *
      generalize V j = v at *
      generalize S j = s at *
      cases this with
      | skip => rfl
      | run st1 _ _ s1 hw hd => cases hd <;> rfl
    rw [htm]
    by_cases e : o.dst = some t
    · rw [e]; simp only [putD]
      rw [evA_set_eq]
      refine ⟨fun k hk hkt => ?_, fun hn => absurd (hd.trans e) (hn j (by omega))⟩
      rw [hu k j t hkt (hd.trans e)]
    · have e2 : evA (putD (S j).tm o.dst (V j)) (.t t) = evA (S j).tm (.t t) := by
        cases hdd : o.dst with
        | none => rfl
        | some d => simp only [putD]; exact evA_set_ne fun c => e (by rw [hdd]; injection c with c; rw [c])
      rw [e2]
      refine ⟨fun k hk hkt => h1 k ?_ hkt, fun hn => h2 fun k hk => hn k (by omega)⟩
      rcases Nat.lt_succ_iff_lt_or_eq.1 hk with h | h
      · exact h
      · subst h; rw [hd] at hkt; exact absurd hkt e
end
end Go.Ab

namespace Go.Ab
def Live (cops : List COper) (S : Nat → DR) (K : Nat → Kd) (L : Nat → Prop) (c id : Nat) (o : AObj) : Prop :=
  (S c).base.get id = some o ∨ ∃ j, L j ∧ NewsAt S j id o ∧ ∀ h, j < h → h < c → K h = .hard → (ancAt cops h).testBit j = false
structure DI (P : Program) (ρ : Nat → Int) (E : T Unit) (N : Nat) (cops : List COper) (S : Nat → DR) (K : Nat → Kd) (V : Nat → AV) (R0 : Inj) (a0 : Act) (w0 : World) (L : Nat → Prop) (c : Nat) (R : Inj) (a : Act) (w : World) : Prop where
  lt : ∀ j, L j → j < cops.length
  closed : ∀ j, L j → ∀ k, (ancAt cops j).testBit k = true → L k
  cutle : c ≤ cops.length
  cut : ∀ h, h < cops.length → K h = .hard → (L h ↔ h < c)
  tr : ∃ tmx, TR ρ R E N tmx a.tmps ∧ ∀ t, (∀ k, L k → dstAt cops k = some t → evA tmx (.t t) = V k) ∧ ((∀ k, L k → dstAt cops k ≠ some t) → evA tmx (.t t) = evA (S 0).tm (.t t))
  defers : a.defers = a0.defers
  glob : Glob R
  ext : ∀ id, ¬ ((S 0).next ≤ id ∧ id < (S cops.length).next) → R id = R0 id
  fresh : ∀ j, j < cops.length → ¬ L j → ∀ id, (S j).next ≤ id → id < (S (j + 1)).next → R id = none
  live : ∀ id o, Live cops S K L c id o → ∃ l x, R id = some l ∧ w.heap[l.b]? = some x ∧ OR P ρ R o l x
  inj : ∀ i j o o' l l', Live cops S K L c i o → Live cops S K L c j o' → R i = some l → R j = some l' → l.b = l'.b → i = j
  bi : ∀ id o, (S c).base.get id = some o → (S 0).base.get id ≠ none ∨ ∃ j, j < c ∧ (S j).next ≤ id ∧ id < (S (j + 1)).next ∧ (K j = .hard ∨ ∃ h, j < h ∧ h < c ∧ K h = .hard ∧ (ancAt cops h).testBit j = true)
  size : w0.heap.size ≤ w.heap.size
  keep : ∀ b, ¬ Chg R0 (S 0).base (S cops.length).low w0 b → w.heap[b]? = w0.heap[b]?
  news : ∀ id o l, Live cops S K L c id o → R id = some l → (∃ o0, (S 0).base.get id = some o0 ∧ R0 id = some l) ∨ Chg R0 (S 0).base (S cops.length).low w0 l.b
  tape : w.tape = w0.tape
  os : w.os = w0.os
  out : w.output = w0.output
section
variable {P : Program} {ρ : Nat → Int} {E : T Unit} {N : Nat} {call : CallV} {cops : List COper} {S : Nat → DR} {K : Nat → Kd} {V : Nat → AV} {R0 : Inj} {a0 : Act} {w0 : World} {L : Nat → Prop} {c : Nat} {R : Inj} {a : Act} {w : World}
def with1 (L : Nat → Prop) (i : Nat) : Nat → Prop := fun j => L j ∨ j = i
theorem put_tr {R' : Inj} (hu : ∀ i j d, dstAt cops i = some d → dstAt cops j = some d → i = j) {i : Nat} (hnL : ¬ L i) (hd : ∀ d, dstAt cops i = some d → d < N)
    (D : ∃ tmx, TR ρ R E N tmx a.tmps ∧ ∀ t, (∀ k, L k → dstAt cops k = some t → evA tmx (.t t) = V k) ∧ ((∀ k, L k → dstAt cops k ≠ some t) → evA tmx (.t t) = evA (S 0).tm (.t t)))
    (e : Ext R R') {cv : Value} (hv : VR ρ R' (V i) cv) :
    ∃ tmx, TR ρ R' E N tmx (a.put (dstAt cops i) cv).tmps ∧ ∀ t, (∀ k, with1 L i k → dstAt cops k = some t → evA tmx (.t t) = V k) ∧ ((∀ k, with1 L i k → dstAt cops k ≠ some t) → evA tmx (.t t) = evA (S 0).tm (.t t)) := by
  obtain ⟨tmx, t, ht⟩ := D
  cases hdi : dstAt cops i with
  | none =>
    refine ⟨tmx, t.mono e, fun x => ⟨fun k hk hkx => ?_, fun hn => (ht x).2 fun k hk => hn k (.inl hk)⟩⟩
    rcases hk with hk | rfl
    · exact (ht x).1 k hk hkx
    · rw [hdi] at hkx; cases hkx
  | some d =>
    refine ⟨tmx.set d (V i), (t.mono e).set (hd d hdi) hv, fun x => ?_⟩
    by_cases ex : x = d
    · subst ex
      rw [evA_set_eq]
      exact ⟨fun k hk hkx => by rw [hu k i x hkx hdi], fun hn => absurd hdi (hn i (.inr rfl))⟩
    · rw [evA_set_ne (fun c => ex (by injection c))]
      refine ⟨fun k hk hkx => ?_, fun hn => (ht x).2 fun k hk => hn k (.inl hk)⟩
      rcases hk with hk | rfl
      · exact (ht x).1 k hk hkx
      · rw [hdi] at hkx; injection hkx with hkx; exact absurd hkx.symm ex
theorem put_defers (a : Act) (d : Option Nat) (v : Value) : (a.put d v).defers = a.defers := by cases d <;> rfl
theorem range_disjoint (hm : ∀ a b, a ≤ b → b ≤ cops.length → (S a).next ≤ (S b).next) {i j : Nat} (hi : i < cops.length) (hj : j < cops.length) {id : Nat} (h1 : (S i).next ≤ id) (h2 : id < (S (i + 1)).next) (h3 : (S j).next ≤ id) (h4 : id < (S (j + 1)).next) : i = j := by
  rcases Nat.lt_trichotomy i j with h | h | h
  · have := hm (i + 1) j (by omega) (by omega); omega
  · exact h
  · have := hm (j + 1) i (by omega) (by omega); omega
theorem DI.soft (Tt : Tr call cops S K V) (hm : ∀ a b, a ≤ b → b ≤ cops.length → (S a).next ≤ (S b).next) (hu : ∀ i j d, dstAt cops i = some d → dstAt cops j = some d → i = j)
    (D : DI P ρ E N cops S K V R0 a0 w0 L c R a w) {i : Nat} (hi : i < cops.length) (hnL : ¬ L i) (hanc : ∀ k, (ancAt cops i).testBit k = true → L k) (hk : K i ≠ .hard) (hd : ∀ d, dstAt cops i = some d → d < N)
    {hI h' : T AObj} {w' : World} {R' : Inj} {low : Nat} (s : Step P ρ R hI w R' h' w' low (S i).next (S (i + 1)).next) (hlive : ∀ id o, hI.get id = some o → Live cops S K L c id o) (hlow : ∀ id o, hI.get id = some o → id < low)
    (hn : ∀ id o, NewsAt S i id o → h'.get id = some o) {cv : Value} (hv : VR ρ R' (V i) cv) :
    DI P ρ E N cops S K V R0 a0 w0 (with1 L i) c R' (a.put (dstAt cops i) cv) w' := by
  have fr : Fresh R (S i).next (S (i + 1)).next := fun id h1 h2 => D.fresh i hi hnL id h1 h2
  have e : Ext R R' := s.mono fr
  have hchg : ∀ b, Chg R hI low w b → w.heap.size ≤ b := by
    rintro b (h | ⟨id, o, l, h1, h2, _⟩)
    · exact h
    · have := hlow id o h2; omega
  have hkeep : ∀ b, b < w.heap.size → w'.heap[b]? = w.heap[b]? := fun b hb => s.keep b fun hc => by have := hchg b hc; omega
  have old : ∀ id o, Live cops S K (with1 L i) c id o → Live cops S K L c id o ∨ NewsAt S i id o := by
    rintro id o (h | ⟨j, hj, hnn, hh⟩)
    · exact .inl (.inl h)
    · rcases hj with hj | rfl
      · exact .inl (.inr ⟨j, hj, hnn, hh⟩)
      · exact .inr hnn
  have oldR : ∀ id o, Live cops S K L c id o → ∃ l x, R id = some l ∧ R' id = some l ∧ l.b < w.heap.size ∧ w.heap[l.b]? = some x ∧ OR P ρ R o l x := by
    intro id o h
    obtain ⟨l, x, h1, h2, h3⟩ := D.live id o h
    exact ⟨l, x, h1, e _ _ h1, (Array.getElem?_eq_some_iff.1 h2).1, h2, h3⟩
  have hnone : ∀ id o, hI.get id = some o → R id ≠ none := by
    intro id o h
    obtain ⟨l, x, h1, _⟩ := D.live id o (hlive id o h)
    rw [h1]; simp
  have newb : ∀ id o l, NewsAt S i id o → R' id = some l → w.heap.size ≤ l.b := by
    intro id o l h hr
    rcases s.news id o l (hn id o h) hr with ⟨o0, h0, r0⟩ | hc
    · have := Tt.news hi h
      rw [fr id this.2.1 this.2.2] at r0; cases r0
    · exact hchg _ hc
  have key : ∀ b, Chg R hI low w b → Chg R0 (S 0).base (S cops.length).low w0 b := fun b hb => .inl (Nat.le_trans D.size (hchg b hb))
  refine ⟨?_, ?_, D.cutle, ?_, put_tr hu hnL hd D.tr e hv, by rw [put_defers]; exact D.defers, D.glob.mono e, fun id hid => ?_, fun j hj hnj id h1 h2 => ?_, fun id o h => ?_, fun i1 i2 o1 o2 l1 l2 h1 h2 r1 r2 eb => ?_, D.bi,
    Nat.le_trans D.size s.size, fun b hb => ?_, fun id o l h hr => ?_, s.tape.trans D.tape, s.os.trans D.os, s.out.trans D.out⟩
  · rintro j (hj | rfl)
    · exact D.lt j hj
    · exact hi
  · rintro j (hj | rfl) k hbit
    · exact .inl (D.closed j hj k hbit)
    · exact .inl (hanc k hbit)
  · intro h hh hkh
    have hne : h ≠ i := fun c => hk (c ▸ hkh)
    constructor
    · rintro (h1 | h1)
      · exact (D.cut h hh hkh).1 h1
      · exact absurd h1 hne
    · exact fun h1 => .inl ((D.cut h hh hkh).2 h1)
  · rw [s.ext id fun hc => hid ⟨Nat.le_trans (hm 0 i (Nat.zero_le _) (by omega)) hc.1, Nat.lt_of_lt_of_le hc.2 (hm (i + 1) _ (by omega) (Nat.le_refl _))⟩]
    exact D.ext id hid
  · have hji : j ≠ i := fun c => hnj (.inr c)
    rw [s.ext id fun hc => hji (range_disjoint hm hj hi h1 h2 hc.1 hc.2)]
    exact D.fresh j hj (fun c => hnj (.inl c)) id h1 h2
  · rcases old id o h with h | h
    · obtain ⟨l, x, h1, h2, h3, h4, h5⟩ := oldR id o h
      exact ⟨l, x, h2, by rw [hkeep _ h3]; exact h4, h5.mono e⟩
    · exact s.inv.live id o (hn id o h)
  · rcases old i1 o1 h1 with h1 | h1 <;> rcases old i2 o2 h2 with h2 | h2
    · obtain ⟨m1, x1, a1, b1, _⟩ := oldR i1 o1 h1
      obtain ⟨m2, x2, a2, b2, _⟩ := oldR i2 o2 h2
      rw [b1] at r1; injection r1 with r1; rw [b2] at r2; injection r2 with r2
      exact D.inj i1 i2 o1 o2 m1 m2 h1 h2 a1 a2 (by rw [r1, r2]; exact eb)
    · obtain ⟨m1, x1, a1, b1, c1, _⟩ := oldR i1 o1 h1
      rw [b1] at r1; injection r1 with r1
      have := newb i2 o2 l2 h2 r2
      rw [r1] at c1; omega
    · obtain ⟨m2, x2, a2, b2, c2, _⟩ := oldR i2 o2 h2
      rw [b2] at r2; injection r2 with r2
      have := newb i1 o1 l1 h1 r1
      rw [r2] at c2; omega
    · exact s.inv.inj i1 i2 o1 o2 l1 l2 (hn i1 o1 h1) (hn i2 o2 h2) r1 r2 eb
  · rw [s.keep b fun hc => hb (key b hc)]; exact D.keep b hb
  · rcases old id o h with h | h
    · obtain ⟨m1, x1, a1, b1, _⟩ := oldR id o h
      rw [b1] at hr; injection hr with hr; subst hr
      exact D.news id o m1 h a1
    · exact .inr (.inl (Nat.le_trans D.size (newb id o l h hr)))
theorem DI.hard (Tt : Tr call cops S K V) (hm : ∀ a b, a ≤ b → b ≤ cops.length → (S a).next ≤ (S b).next) (hu : ∀ i j d, dstAt cops i = some d → dstAt cops j = some d → i = j) (wf : ∀ id, (S 0).next ≤ id → (S 0).base.get id = none)
    (D : DI P ρ E N cops S K V R0 a0 w0 L c R a w) {i : Nat} (hi : i < cops.length) (hnL : ¬ L i) (hanc : ∀ k, (ancAt cops i).testBit k = true → L k) (hancl : ∀ k, (ancAt cops i).testBit k = true → k < i) (hk : K i = .hard) (hd : ∀ d, dstAt cops i = some d → d < N)
    (hcut : ∀ h, h < cops.length → K h = .hard → (L h ↔ h < i))
    {hI : T AObj} {w' : World} {R' : Inj} {low : Nat} (s : Step P ρ R hI w R' (S (i + 1)).base w' low (S i).next (S (i + 1)).next)
    (hlive : ∀ id o, hI.get id = some o → (S c).base.get id = some o ∨ ∃ j, L j ∧ (ancAt cops i).testBit j = true ∧ NewsAt S j id o ∧ ∀ h, j < h → h < c → K h = .hard → (ancAt cops h).testBit j = false)
    (hlow : (S cops.length).low ≤ low) {cv : Value} (hv : VR ρ R' (V i) cv) :
    DI P ρ E N cops S K V R0 a0 w0 (with1 L i) (i + 1) R' (a.put (dstAt cops i) cv) w' := by
  have fr : Fresh R (S i).next (S (i + 1)).next := fun id h1 h2 => D.fresh i hi hnL id h1 h2
  have e : Ext R R' := s.mono fr
  have hcc : ∀ h, h < cops.length → K h = .hard → (h < c ↔ h < i) := fun h hh hkh => (D.cut h hh hkh).symm.trans (hcut h hh hkh)
  have hlive' : ∀ id o, hI.get id = some o → Live cops S K L c id o := by
    intro id o h
    rcases hlive id o h with h | ⟨j, h1, _, h3, h4⟩
    · exact .inl h
    · exact .inr ⟨j, h1, h3, h4⟩
  have key : ∀ b, Chg R hI low w b → Chg R0 (S 0).base (S cops.length).low w0 b := by
    rintro b (h | ⟨id, o, l, h1, h2, h3, rfl⟩)
    · exact .inl (Nat.le_trans D.size h)
    · rcases D.news id o l (hlive' id o h2) h3 with ⟨o0, h4, h5⟩ | h4
      · exact .inr ⟨id, o0, l, Nat.le_trans hlow h1, h4, h5, rfl⟩
      · exact h4
  have rest : ∀ j id o, L j → NewsAt S j id o → (∀ h, j < h → h < i + 1 → K h = .hard → (ancAt cops h).testBit j = false) → (ancAt cops i).testBit j = false ∧ Live cops S K L c id o ∧ ∀ o', hI.get id ≠ some o' := by
    intro j id o hj hn hh
    have hjm := D.lt j hj
    have hjn := Tt.news hjm hn
    have hnb : (ancAt cops i).testBit j = false := by
      cases hb : (ancAt cops i).testBit j with
      | false => rfl
      | true => rw [hh i (hancl j hb) (by omega) hk] at hb; cases hb
    have hc : ∀ h, j < h → h < c → K h = .hard → (ancAt cops h).testBit j = false := fun h h1 h2 h3 => hh h h1 (by
      have := (hcc h (Nat.lt_of_lt_of_le h2 D.cutle) h3).1 h2; omega) h3
    refine ⟨hnb, .inr ⟨j, hj, hn, hc⟩, fun o' h => ?_⟩
    rcases hlive id o' h with h | ⟨j', h1, h2, h3, _⟩
    · rcases D.bi id o' h with h0 | ⟨j', h1, h2, h3, h4⟩
      · exact h0 (wf id (Nat.le_trans (hm 0 j (Nat.zero_le _) (by omega)) hjn.2.1))
      · have : j' = j := range_disjoint hm (Nat.lt_of_lt_of_le h1 D.cutle) hjm h2 h3 hjn.2.1 hjn.2.2
        subst this
        rcases h4 with h4 | ⟨h, h5, h6, h7, h8⟩
        · rcases hjn.1 with h9 | h9 <;> rw [h4] at h9 <;> cases h9
        · rw [hc h h5 h6 h7] at h8; cases h8
    · have h4 := Tt.news (D.lt j' h1) h3
      have : j' = j := range_disjoint hm (D.lt j' h1) hjm h4.2.1 h4.2.2 hjn.2.1 hjn.2.2
      subst this
      rw [hnb] at h2; cases h2
  have now : ∀ id o, Live cops S K (with1 L i) (i + 1) id o → (S (i + 1)).base.get id = some o ∨ (Live cops S K L c id o ∧ ∀ o', hI.get id ≠ some o') := by
    rintro id o (h | ⟨j, hj, hn, hh⟩)
    · exact .inl h
    · rcases hj with hj | rfl
      · have := rest j id o hj hn hh; exact .inr this.2
      · exfalso
        have := (Tt.news hi hn).1
        rw [hk] at this; rcases this with h | h <;> cases h
  have oldR : ∀ id o, Live cops S K L c id o → ∃ l x, R id = some l ∧ R' id = some l ∧ l.b < w.heap.size ∧ w.heap[l.b]? = some x ∧ OR P ρ R o l x := by
    intro id o h
    obtain ⟨l, x, h1, h2, h3⟩ := D.live id o h
    exact ⟨l, x, h1, e _ _ h1, (Array.getElem?_eq_some_iff.1 h2).1, h2, h3⟩
  have apart : ∀ id o l, Live cops S K L c id o → (∀ o', hI.get id ≠ some o') → R id = some l → ¬ Chg R hI low w l.b := by
    rintro id o l h hno hr (h1 | ⟨id', o', l', h1, h2, h3, h4⟩)
    · obtain ⟨m, x, a1, _, c1, _⟩ := oldR id o h
      rw [a1] at hr; injection hr with hr; subst hr; omega
    · have := D.inj id' id o' o l' l (hlive' _ _ h2) h h3 hr h4
      subst this
      exact hno _ h2
  refine ⟨?_, ?_, by omega, ?_, put_tr hu hnL hd D.tr e hv, by rw [put_defers]; exact D.defers, D.glob.mono e, fun id hid => ?_, fun j hj hnj id h1 h2 => ?_, fun id o h => ?_, fun i1 i2 o1 o2 l1 l2 h1 h2 r1 r2 eb => ?_, fun id o h => ?_,
    Nat.le_trans D.size s.size, fun b hb => ?_, fun id o l h hr => ?_, s.tape.trans D.tape, s.os.trans D.os, s.out.trans D.out⟩
  · rintro j (hj | rfl)
    · exact D.lt j hj
    · exact hi
  · rintro j (hj | rfl) k hbit
    · exact .inl (D.closed j hj k hbit)
    · exact .inl (hanc k hbit)
  · intro h hh hkh
    have := hcut h hh hkh
    constructor
    · rintro (h1 | h1)
      · have := this.1 h1; omega
      · omega
    · intro h1
      by_cases hhi : h = i
      · exact .inr hhi
      · exact .inl (this.2 (by omega))
  · rw [s.ext id fun hc => hid ⟨Nat.le_trans (hm 0 i (Nat.zero_le _) (by omega)) hc.1, Nat.lt_of_lt_of_le hc.2 (hm (i + 1) _ (by omega) (Nat.le_refl _))⟩]
    exact D.ext id hid
  · have hji : j ≠ i := fun c => hnj (.inr c)
    rw [s.ext id fun hc => hji (range_disjoint hm hj hi h1 h2 hc.1 hc.2)]
    exact D.fresh j hj (fun c => hnj (.inl c)) id h1 h2
  · rcases now id o h with h | ⟨h, hno⟩
    · exact s.inv.live id o h
    · obtain ⟨l, x, h1, h2, h3, h4, h5⟩ := oldR id o h
      exact ⟨l, x, h2, by rw [s.keep _ (apart id o l h hno h1)]; exact h4, h5.mono e⟩
  ·
    have mixed : ∀ j1 j2 p1 p2 m1 m2, (S (i + 1)).base.get j1 = some p1 → Live cops S K L c j2 p2 → (∀ o', hI.get j2 ≠ some o') → R' j1 = some m1 → R' j2 = some m2 → m1.b = m2.b → False := by
      intro j1 j2 p1 p2 m1 m2 g1 g2 hno q1 q2 eb
      obtain ⟨m, x, a2, b2, c2, _⟩ := oldR j2 p2 g2
      rw [b2] at q2; injection q2 with q2; subst q2
      rcases s.news j1 p1 m1 g1 q1 with ⟨o0, h3, h4⟩ | h3
      · have := D.inj j1 j2 o0 p2 m1 m (hlive' _ _ h3) g2 h4 a2 eb
        subst this
        exact hno _ h3
      · rw [eb] at h3
        exact apart j2 p2 m g2 hno a2 h3
    rcases now i1 o1 h1 with h1 | ⟨h1, n1⟩ <;> rcases now i2 o2 h2 with h2 | ⟨h2, n2⟩
    · exact s.inv.inj i1 i2 o1 o2 l1 l2 h1 h2 r1 r2 eb
    · exact (mixed i1 i2 o1 o2 l1 l2 h1 h2 n2 r1 r2 eb).elim
    · exact (mixed i2 i1 o2 o1 l2 l1 h2 h1 n1 r2 r1 eb.symm).elim
    · obtain ⟨m1, x1, a1, b1, _⟩ := oldR i1 o1 h1
      obtain ⟨m2, x2, a2, b2, _⟩ := oldR i2 o2 h2
      rw [b1] at r1; injection r1 with r1; rw [b2] at r2; injection r2 with r2
      exact D.inj i1 i2 o1 o2 m1 m2 h1 h2 a1 a2 (by rw [r1, r2]; exact eb)
  · by_cases hnew : (S i).next ≤ id ∧ id < (S (i + 1)).next
    · exact .inr ⟨i, by omega, hnew.1, hnew.2, .inl hk⟩
    · cases hg : hI.get id with
      | none => rw [s.dom id hg hnew] at h; cases h
      | some o' =>
        rcases hlive id o' hg with h1 | ⟨j, h1, h2, h3, _⟩
        · rcases D.bi id o' h1 with h0 | ⟨j, h2, h3, h4, h5⟩
          · exact .inl h0
          · have hjm : j < cops.length := Nat.lt_of_lt_of_le h2 D.cutle
            rcases h5 with h5 | ⟨h, h6, h7, h8, h9⟩
            · exact .inr ⟨j, by have := (hcc j hjm h5).1 h2; omega, h3, h4, .inl h5⟩
            · have := (hcc h (Nat.lt_of_lt_of_le h7 D.cutle) h8).1 h7
              exact .inr ⟨j, by omega, h3, h4, .inr ⟨h, h6, by omega, h8, h9⟩⟩
        · have h4 := Tt.news (D.lt j h1) h3
          have := hancl j h2
          exact .inr ⟨j, by omega, h4.2.1, h4.2.2, .inr ⟨i, this, by omega, hk, h2⟩⟩
  · rw [s.keep b fun hc => hb (key b hc)]; exact D.keep b hb
  · rcases now id o h with h | ⟨h, _⟩
    · rcases s.news id o l h hr with ⟨o0, h1, h2⟩ | h1
      · exact D.news id o0 l (hlive' _ _ h1) h2
      · exact .inr (key _ h1)
    · obtain ⟨m1, x1, a1, b1, _⟩ := oldR id o h
      rw [b1] at hr; injection hr with hr; subst hr
      exact D.news id o m1 h a1
end
end Go.Ab

namespace Go.Ab
section
variable {call : CallV} {i : Nat} {o : COper} {s s' : DR} {k : Kd} {v : AV}
theorem DStep.inv (h : DStep call i o s k v s') :
    (k = .quiet ∧ v = undef ∧ ∃ st1, wantK o.guard s.tm (s.st .leaf s.low) (fun b st => .ok (b, st)) = .ok (false, st1) ∧ s' = { s with tm := putD s.tm o.dst undef, sc := st1.sc, tr := st1.tr }) ∨
    ∃ st1 s1, wantK o.guard s.tm (s.st .leaf s.low) (fun b st => .ok (b, st)) = .ok (true, st1) ∧ DOp call i o { s with sc := st1.sc, tr := st1.tr } k v s1 ∧ s' = { s1 with tm := putD s1.tm o.dst v } := by
  cases h with
  | skip st1 h => exact .inl ⟨rfl, rfl, st1, h, rfl⟩
  | run st1 k v s1 h hd => exact .inr ⟨st1, s1, h, hd, rfl⟩
theorem DOp.inv (h : DOp call i o s k v s') :
    (k = .quiet ∧ ∃ st, opClass o.op = 0 ∧ evOp o.op s.tm (s.st .leaf s.low) call = .ok (v, st) ∧ s' = { s with sc := st.sc, tr := st.tr }) ∨
    (k = .alloc ∧ ∃ st, evOp o.op s.tm (s.st .leaf s.next) call = .ok (v, st) ∧ s.next ≤ st.low ∧ s' = { s with pend := newsOf i v st.heap s.next st.next s.pend, next := st.next, sc := st.sc, tr := st.tr }) ∨
    (k = .load ∧ ∃ x n, asLoad o.op = some (x, n) ∧ loadAt s.base (evA s.tm x) n = some v ∧ s' = { s with loads := { j := i, anc := o.anc, p := evA s.tm x, n := n, v := v } :: s.loads }) ∨
    (k = .soft ∧ ∃ st, evOp o.op s.tm (s.st (heapFor s.base o.anc s.pend) s.next) call = .ok (v, st) ∧ within s.hmask o.anc = true ∧ s.next ≤ st.low ∧
      s' = { s with pend := newsOf i v st.heap s.next st.next s.pend, softs := Nat.lor s.softs (Nat.pow 2 i), next := st.next, sc := st.sc, tr := st.tr }) ∨
    (k = .hard ∧ ∃ st, evOp o.op s.tm (s.st (heapFor s.base o.anc s.pend) s.next) call = .ok (v, st) ∧ within s.hmask o.anc = true ∧ within s.softs o.anc = true ∧
      s' = { s with
          base := st.heap, bases := s.base :: s.bases, pend := pendRest o.anc s.pend, softs := 0, hmask := Nat.lor s.hmask (Nat.pow 2 i), hards := (i, o.anc) :: s.hards,
          next := st.next, low := lowered s.low st.low, sc := st.sc, tr := st.tr }) := by
  cases h with
  | pure v st h0 h => exact .inl ⟨rfl, st, h0, h, rfl⟩
  | alloc v st h hl => exact .inr (.inl ⟨rfl, st, h, hl, rfl⟩)
  | load x n v ha h => exact .inr (.inr (.inl ⟨rfl, x, n, ha, h, rfl⟩))
  | soft v st h hw hl => exact .inr (.inr (.inr (.inl ⟨rfl, st, h, hw, hl, rfl⟩)))
  | hard v st h hw hs => exact .inr (.inr (.inr (.inr ⟨rfl, st, h, hw, hs, rfl⟩)))
theorem wantK_congr {β : Type} {g : Option (CA × Bool)} {tm tm' : T AV} {st : St} {K : Bool → St → M β} (h : ∀ x want, g = some (x, want) → evA tm x = evA tm' x) : wantK g tm st K = wantK g tm' st K := by
  cases g with
  | none => rfl
  | some p => obtain ⟨x, want⟩ := p; simp only [wantK, evAK_eq, h x want rfl]
end
theorem ancFold_bit {b : List Nat} {k : Nat} : ∀ {l : List Edge}, (ancFold b l).testBit k = true → ∃ e ∈ l, Region.binds .any e = true ∧ (k = e.on ∨ (b.getD e.on 0).testBit k = true) := by
  intro l
  induction l with
  | nil => intro h; simp [ancFold] at h
  | cons e l ih =>
    intro h
    simp only [ancFold] at h
    split at h
    · rename_i hb
      have h : ((2 ^ e.on ||| b.getD e.on 0) ||| ancFold b l).testBit k = true := h
      rw [Nat.testBit_or, Nat.testBit_or, Nat.testBit_two_pow] at h
      simp only [Bool.or_eq_true, decide_eq_true_eq] at h
      rcases h with (h | h) | h
      · exact ⟨e, by simp, hb, .inl h.symm⟩
      · exact ⟨e, by simp, hb, .inr h⟩
      · obtain ⟨e', a, c, d⟩ := ih h; exact ⟨e', List.mem_cons_of_mem _ a, c, d⟩
    · obtain ⟨e', a, c, d⟩ := ih h; exact ⟨e', List.mem_cons_of_mem _ a, c, d⟩
theorem ancOk_get {b : List Nat} : ∀ {l : List Oper} {m : List Nat} {i : Nat}, ancOk b i l m = true → l.length = m.length ∧ ∀ j o, l[j]? = some o → ∃ a, m[j]? = some a ∧ a = ancFold b o.after.toList ∧ ∀ e ∈ o.after.toList, Region.binds .any e = true → e.on < i + j := by
  intro l
  induction l with
  | nil =>
    intro m i h
    cases m with
    | nil => exact ⟨rfl, fun j o h => by simp at h⟩
    | cons => simp [ancOk] at h
  | cons o l ih =>
    intro m i h
    cases m with
    | nil => simp [ancOk] at h
    | cons a m =>
      simp only [ancOk, Bool.and_eq_true, List.all_eq_true, Bool.or_eq_true, Bool.not_eq_true'] at h
      obtain ⟨⟨h1, h2⟩, h3⟩ := h
      obtain ⟨h4, h5⟩ := ih h3
      refine ⟨by simp [h4], fun j p hp => ?_⟩
      cases j with
      | zero =>
        simp only [List.getElem?_cons_zero, Option.some.injEq] at hp
        subst hp
        exact ⟨a, rfl, beq_true h2, fun e he hb => blt_true ((h1 e he).resolve_left (by rw [hb]; simp))⟩
      | succ j =>
        simp only [List.getElem?_cons_succ] at hp
        obtain ⟨a', x, y, z⟩ := h5 j p hp
        exact ⟨a', by simpa using x, y, fun e he hb => by have := z e he hb; omega⟩
section
variable {P : Program} {E : T Unit} {ops : Array Oper}
theorem cDrawOpers_get : ∀ {l : List Oper} {m : List Nat}, l.length = m.length → (cDrawOpers P E ops l m).length = l.length ∧ ∀ j : Nat, (cDrawOpers P E ops l m)[j]? = match l[j]?, m[j]? with
    | some o, some a => some (cOper P E [] ops a o)
    | _, _ => none := by
  intro l
  induction l with
  | nil => intro m h; cases m with
    | nil => exact ⟨rfl, fun j => by simp [cDrawOpers]⟩
    | cons => simp at h
  | cons o l ih =>
    intro m h
    cases m with
    | nil => simp at h
    | cons a m =>
      obtain ⟨h1, h2⟩ := ih (m := m) (by simpa using h)
      refine ⟨by simp [cDrawOpers, h1], fun j => ?_⟩
      cases j with
      | zero => simp [cDrawOpers]
      | succ j => simpa [cDrawOpers] using h2 j
end
theorem memT_false {x : Nat} : ∀ {l : List Nat}, dstOk1.memT x l = false → x ∉ l := by
  intro l
  induction l with
  | nil => intro _ h; cases h
  | cons y l ih =>
    intro h hm
    simp only [dstOk1.memT, Bool.or_eq_false_iff] at h
    rcases List.mem_cons.1 hm with rfl | hm
    · exact beq_false' h.1 rfl
    · exact ih h.2 hm
theorem dstOk1_get {d i a : Nat} : ∀ {l : List COper} {j : Nat}, dstOk1 d i a j l = true → ∀ k o, l[k]? = some o → i ≠ j + k → o.dst ≠ some d ∧ (d ∈ o.reads → o.anc.testBit i = true ∨ a.testBit (j + k) = true) := by
  intro l
  induction l with
  | nil => intro j h k o ho; simp at ho
  | cons p l ih =>
    intro j h k o ho hne
    simp only [dstOk1, Bool.and_eq_true, Bool.or_eq_true, Bool.not_eq_true'] at h
    obtain ⟨h1, h2⟩ := h
    cases k with
    | zero =>
      simp only [List.getElem?_cons_zero, Option.some.injEq] at ho
      subst ho
      rcases h1 with h1 | ⟨h1, h3⟩
      · exact absurd (beq_true h1) hne
      · refine ⟨fun c => ?_, fun hm => ?_⟩
        · rw [c] at h1; simp at h1
        · rcases h3 with (h3 | h3) | h3
          · exact absurd hm (memT_false h3)
          · exact .inl h3
          · exact .inr h3
    | succ k =>
      simp only [List.getElem?_cons_succ] at ho
      have := ih h2 k o ho (by omega)
      rw [show j + (k + 1) = Nat.succ j + k by omega]; exact this
theorem dstOkAll_get {all : List COper} : ∀ {l : List COper} {i : Nat}, dstOkAll all i l = true → ∀ k o d, l[k]? = some o → o.dst = some d → dstOk1 d (i + k) o.anc 0 all = true := by
  intro l
  induction l with
  | nil => intro i h k o d ho; simp at ho
  | cons p l ih =>
    intro i h k o d ho hd
    simp only [dstOkAll, Bool.and_eq_true] at h
    obtain ⟨h1, h2⟩ := h
    cases k with
    | zero =>
      simp only [List.getElem?_cons_zero, Option.some.injEq] at ho
      subst ho
      rw [hd] at h1; exact h1
    | succ k =>
      simp only [List.getElem?_cons_succ] at ho
      have := ih h2 k o d ho hd
      rw [show i + (k + 1) = Nat.succ i + k by omega]; exact this
structure DO (P : Program) (E : T Unit) (N : Nat) (ops : Array Oper) (cops : List COper) : Prop where
  len : cops.length = ops.size
  get : ∀ i o, ops[i]? = some o → ∃ a, cops[i]? = some (cOper P E [] ops a o) ∧ a = ancAt cops i
  edge : ∀ i o, ops[i]? = some o → (∀ e ∈ o.after, Region.binds .any e = true → e.on < i) ∧ ∀ k, (ancAt cops i).testBit k = true → ∃ e ∈ o.after, Region.binds .any e = true ∧ (k = e.on ∨ (ancAt cops e.on).testBit k = true)
  uniq : ∀ i j d, dstAt cops i = some d → dstAt cops j = some d → i = j
  order : ∀ i j d o, dstAt cops i = some d → cops[j]? = some o → d ∈ o.reads → i ≠ j → (ancAt cops j).testBit i = true ∨ (ancAt cops i).testBit j = true
  dst : ∀ i d, dstAt cops i = some d → d < N ∧ E.get d = none
theorem cOper_dst {P : Program} {E : T Unit} {ops : Array Oper} {a : Nat} {o : Oper} {d : Nat} (h : (cOper P E [] ops a o).dst = some d) : o.dst = some d := by
  unfold cOper at h
  split at h
  · exact h
  · exact h
  · cases h
theorem cOper_anc (P : Program) (E : T Unit) (ops : Array Oper) (a : Nat) (o : Oper) : (cOper P E [] ops a o).anc = a := by
  unfold cOper
  split <;> rfl
theorem drawOk_DO {P : Program} {E : T Unit} {N : Nat} {ops : Array Oper} {b : List Nat} (h : (drawOk ops b (cDrawOpers P E ops ops.toList b) && dstsOk E N ops) = true) : DO P E N ops (cDrawOpers P E ops ops.toList b) := by
  simp only [Bool.and_eq_true, drawOk] at h
  obtain ⟨⟨h1, h2⟩, h3⟩ := h
  obtain ⟨hl, hg⟩ := ancOk_get h1
  obtain ⟨hl2, hg2⟩ := cDrawOpers_get (P := P) (E := E) (ops := ops) hl
  generalize hc : cDrawOpers P E ops ops.toList b = cops at *
  have get : ∀ i o, ops[i]? = some o → b[i]? = some (ancAt cops i) ∧ cops[i]? = some (cOper P E [] ops (ancAt cops i) o) ∧ ancAt cops i = ancFold b o.after.toList ∧ ∀ e ∈ o.after.toList, Region.binds .any e = true → e.on < i := by
    intro i o ho
    have ho' : ops.toList[i]? = some o := by simpa using ho
    obtain ⟨a, x, y, z⟩ := hg i o ho'
    have := hg2 i
    rw [ho', x] at this
    simp only at this
    have ea : ancAt cops i = a := by rw [ancAt_eq this, cOper_anc]
    rw [ea]
    exact ⟨x, this, y, fun e he hb => by have := z e he hb; omega⟩
  have back : ∀ i c, cops[i]? = some c → ∃ o, ops[i]? = some o ∧ c = cOper P E [] ops (ancAt cops i) o := by
    intro i c hci
    have hlt : i < ops.size := by have := (List.getElem?_eq_some_iff.1 hci).1; rw [hl2] at this; simpa using this
    have ho : ops[i]? = some ops[i] := Array.getElem?_eq_getElem hlt
    have := (get i _ ho).2.1
    rw [hci] at this; injection this with this
    exact ⟨_, ho, this⟩
  have bD : ∀ i, i < ops.size → b.getD i 0 = ancAt cops i := by
    intro i hi
    have := (get i _ (Array.getElem?_eq_getElem hi)).1
    rw [List.getD_eq_getElem?_getD, this]; rfl
  refine ⟨by rw [hl2]; simp, fun i o ho => ⟨_, (get i o ho).2.1, rfl⟩, fun i o ho => ⟨fun e he hb => (get i o ho).2.2.2 e (by simpa using he) hb, fun k hk => ?_⟩, fun i j d hi hj => ?_, fun i j d o hi hj hm hne => ?_, fun i d hi => ?_⟩
  · obtain ⟨h4, h5, h6, h7⟩ := get i o ho
    rw [h6] at hk
    obtain ⟨e, he, hb, hk⟩ := ancFold_bit hk
    refine ⟨e, by simpa using he, hb, ?_⟩
    rcases hk with hk | hk
    · exact .inl hk
    · have hlt : i < ops.size := (Array.getElem?_eq_some_iff.1 ho).1
      rw [bD e.on (by have := h7 e he hb; omega)] at hk
      exact .inr hk
  · by_cases e : i = j
    · exact e
    · exfalso
      unfold dstAt at hi hj
      cases hci : cops[i]? with
      | none => rw [hci] at hi; cases hi
      | some ci =>
        cases hcj : cops[j]? with
        | none => rw [hcj] at hj; cases hj
        | some cj =>
          rw [hci] at hi; rw [hcj] at hj
          have := dstOkAll_get h2 i ci d hci hi
          exact (dstOk1_get this j cj hcj (by omega)).1 hj
  · unfold dstAt at hi
    cases hci : cops[i]? with
    | none => rw [hci] at hi; cases hi
    | some ci =>
      rw [hci] at hi
      have := dstOkAll_get h2 i ci d hci hi
      have := (dstOk1_get this j o hj (by omega)).2 hm
      rw [ancAt_eq hj, ancAt_eq hci]
      rcases this with h | h
      · left; simpa using h
      · right; simpa using h
  · unfold dstAt at hi
    cases hci : cops[i]? with
    | none => rw [hci] at hi; cases hi
    | some ci =>
      rw [hci] at hi
      obtain ⟨o, ho, rfl⟩ := back i ci hci
      have hd := cOper_dst hi
      have hmem : o ∈ ops.toList := by have := Array.mem_of_getElem? ho; simpa using this
      have := List.all_eq_true.1 h3 o hmem
      rw [hd] at this
      simp only [Bool.and_eq_true] at this
      exact ⟨blt_true this.1, by simpa using this.2⟩
end Go.Ab

namespace Go.Ab
section
variable {P : Program} {ρ : Nat → Int} {E : T Unit} {N : Nat} {call : CallV} {ops : Array Oper} {cops : List COper} {S : Nat → DR} {K : Nat → Kd} {V : Nat → AV} {R0 : Inj} {a0 : Act} {w0 : World} {L : Nat → Prop} {c : Nat} {R : Inj} {a : Act} {w : World}
theorem DO.ancLt (O : DO P E N ops cops) : ∀ i, i < ops.size → ∀ k, (ancAt cops i).testBit k = true → k < i := by
  intro i
  induction i using Nat.strongRecOn with
  | _ i ih =>
    intro hi k hk
    obtain ⟨h1, h2⟩ := O.edge i _ (Array.getElem?_eq_getElem hi)
    obtain ⟨e, he, hb, h⟩ := h2 k hk
    have hlt := h1 e he hb
    rcases h with h | h
    · omega
    · have := ih e.on hlt (by omega) k h; omega
theorem DI.agree (O : DO P E N ops cops) (Tt : Tr call cops S K V) (D : DI P ρ E N cops S K V R0 a0 w0 L c R a w) {i : Nat} (hi : i < cops.length) (hnL : ¬ L i) (hanc : ∀ k, (ancAt cops i).testBit k = true → L k) {o : COper} (ho : cops[i]? = some o)
    {tmx : T AV} (ht : ∀ t, (∀ k, L k → dstAt cops k = some t → evA tmx (.t t) = V k) ∧ ((∀ k, L k → dstAt cops k ≠ some t) → evA tmx (.t t) = evA (S 0).tm (.t t))) {t : Nat} (hr : t ∈ o.reads) : evA (S i).tm (.t t) = evA tmx (.t t) := by
  have htm := Tt.tm O.uniq i (by omega) t
  by_cases hex : ∃ k, dstAt cops k = some t
  · obtain ⟨k, hk⟩ := hex
    by_cases hki : k = i
    · subst hki
      rw [htm.2 fun k' h' hk' => by have := O.uniq k' k t hk' hk; omega, (ht t).2 fun k' h' hk' => by have := O.uniq k' k t hk' hk; subst this; exact hnL h']
    · rcases O.order k i t o hk ho hr hki with hb | hb
      · have hlt := O.ancLt i (by rw [← O.len]; exact hi) k hb
        rw [htm.1 k hlt hk, (ht t).1 k (hanc k hb) hk]
      · have hkm : k < cops.length := by
          unfold dstAt at hk
          cases hck : cops[k]? with
          | none => rw [hck] at hk; cases hk
          | some ck => exact (List.getElem?_eq_some_iff.1 hck).1
        have hlt := O.ancLt k (by rw [← O.len]; exact hkm) i hb
        rw [htm.2 fun k' h' hk' => by have := O.uniq k' k t hk' hk; omega, (ht t).2 fun k' h' hk' => by have := O.uniq k' k t hk' hk; subst this; exact hnL (D.closed _ h' i hb)]
  · rw [htm.2 fun k' h' hk' => hex ⟨k', hk'⟩, (ht t).2 fun k' h' hk' => hex ⟨k', hk'⟩]
theorem tmpsOf_mem {t : Nat} : ∀ {l : List CA}, CA.t t ∈ l → t ∈ tmpsOf l := by
  intro l
  induction l with
  | nil => intro h; cases h
  | cons x l ih =>
    intro h
    cases x with
    | t u => rcases List.mem_cons.1 h with h | h
             · injection h with h; subst h; simp [tmpsOf]
             · simp only [tmpsOf]; exact List.mem_cons_of_mem _ (ih h)
    | v u => rcases List.mem_cons.1 h with h | h
             · cases h
             · simp only [tmpsOf]; exact ih h
theorem reads_arg {o : COper} {t : Nat} (h : CA.t t ∈ o.op.args) : t ∈ o.reads := by
  unfold COper.reads
  split
  · exact tmpsOf_mem (List.mem_cons_of_mem _ h)
  · exact tmpsOf_mem h
theorem reads_guard {o : COper} {t : Nat} {want : Bool} (h : o.guard = some (.t t, want)) : t ∈ o.reads := by
  unfold COper.reads
  rw [h]; simp [tmpsOf]
theorem DI.base (Tt : Tr call cops S K V) (D : DI P ρ E N cops S K V R0 a0 w0 L c R a w) {i : Nat} (hi : i ≤ cops.length) (h : ∀ h, h < cops.length → K h = .hard → (L h ↔ h < i)) : (S i).base = (S c).base := by
  have hc := D.cutle
  rcases Nat.le_total c i with hci | hci
  · exact Tt.base i hci hi fun x h1 h2 hk => by have := (D.cut x (by omega) hk).symm.trans (h x (by omega) hk); omega
  · exact (Tt.base c hci hc fun x h1 h2 hk => by have := (D.cut x (by omega) hk).symm.trans (h x (by omega) hk); omega).symm
theorem DI.cutHard (Tt : Tr call cops S K V) (D : DI P ρ E N cops S K V R0 a0 w0 L c R a w) {i : Nat} (hi : i < cops.length) (hnL : ¬ L i) (hanc : ∀ k, (ancAt cops i).testBit k = true → L k) (hk : K i = .hard) :
    ∀ h, h < cops.length → K h = .hard → (L h ↔ h < i) := by
  intro h hh hkh
  constructor
  · intro hL
    rcases Nat.lt_trichotomy h i with h1 | h1 | h1
    · exact h1
    · subst h1; exact absurd hL hnL
    · exact absurd (D.closed h hL i (within_bit (Tt.isHard hh hkh).2.2.2.2.1 (Tt.hmask hk h h1 (by omega)))) hnL
  · intro h1
    exact hanc h (within_bit (Tt.isHard hi hk).2.2.2.2.1 (Tt.hmask hkh i h1 (by omega)))
theorem DI.cutSoft (Tt : Tr call cops S K V) (D : DI P ρ E N cops S K V R0 a0 w0 L c R a w) {i : Nat} (hi : i < cops.length) (hnL : ¬ L i) (hanc : ∀ k, (ancAt cops i).testBit k = true → L k) (hk : K i = .soft) :
    ∀ h, h < cops.length → K h = .hard → (L h ↔ h < i) := by
  intro h hh hkh
  constructor
  · intro hL
    rcases Nat.lt_trichotomy h i with h1 | h1 | h1
    · exact h1
    · subst h1; exact absurd hL hnL
    · exfalso
      obtain ⟨h', ⟨h2, h3, h4⟩, h5⟩ := exists_min (p := fun x => i < x ∧ x ≤ h ∧ K x = .hard) h ⟨h1, Nat.le_refl _, hkh⟩
      have hL' : L h' := by
        by_cases e : h' = h
        · rw [e]; exact hL
        · exact D.closed h hL h' (within_bit (Tt.isHard hh hkh).2.2.2.2.1 (Tt.hmask h4 h (by omega) (by omega)))
      have := Tt.soft hk h' h2 (by omega) fun x hx1 hx2 hx3 => by have := h5 x ⟨hx1, by omega, hx3⟩; omega
      exact hnL (D.closed h' hL' i (within_bit (Tt.isHard (i := h') (by omega) h4).2.2.2.2.2 this))
  · intro h1
    exact hanc h (within_bit (Tt.isSoft hi hk).2 (Tt.hmask hkh i h1 (by omega)))
theorem DI.seen (Tt : Tr call cops S K V) (D : DI P ρ E N cops S K V R0 a0 w0 L c R a w) {i : Nat} (hi : i < cops.length) (hanc : ∀ k, (ancAt cops i).testBit k = true → L k) (hcut : ∀ h, h < cops.length → K h = .hard → (L h ↔ h < i)) :
    ∀ id o, (heapFor (S i).base (ancAt cops i) (S i).pend).get id = some o → (S c).base.get id = some o ∨ ∃ j, L j ∧ (ancAt cops i).testBit j = true ∧ NewsAt S j id o ∧ ∀ h, j < h → h < c → K h = .hard → (ancAt cops h).testBit j = false := by
  intro id o h
  rcases heapFor_get h with ⟨j, l, h1, h2, h3⟩ | h1
  · obtain ⟨h4, h5, h6⟩ := Tt.pend i (by omega) j l h1
    have hcl := D.cutle
    exact .inr ⟨j, hanc j h2, h2, ⟨l, h5, h3⟩, fun x hx1 hx2 hx3 => h6 x hx1 (((D.cut x (by omega) hx3).symm.trans (hcut x (by omega) hx3)).1 hx2) hx3⟩
  · rw [D.base Tt (by omega) hcut] at h1; exact .inl h1
theorem DI.seenLt (Tt : Tr call cops S K V) (hm : ∀ a b, a ≤ b → b ≤ cops.length → (S a).next ≤ (S b).next) (wf : ∀ id, (S 0).next ≤ id → (S 0).base.get id = none) (O : DO P E N ops cops)
    (D : DI P ρ E N cops S K V R0 a0 w0 L c R a w) {i : Nat} (hi : i < cops.length) (hanc : ∀ k, (ancAt cops i).testBit k = true → L k) (hcut : ∀ h, h < cops.length → K h = .hard → (L h ↔ h < i)) :
    ∀ id, (S i).next ≤ id → (heapFor (S i).base (ancAt cops i) (S i).pend).get id = none := by
  intro id hid
  cases hg : (heapFor (S i).base (ancAt cops i) (S i).pend).get id with
  | none => rfl
  | some o =>
    exfalso
    have hcl := D.cutle
    rcases D.seen Tt hi hanc hcut id o hg with h | ⟨j, h1, h2, h3, _⟩
    · rcases D.bi id o h with h | ⟨j, h1, h2, h3, h4⟩
      · exact h (wf id (Nat.le_trans (hm 0 i (Nat.zero_le _) (by omega)) hid))
      · have hji : j < i := by
          rcases h4 with h4 | ⟨x, h5, h6, h7, h8⟩
          · exact ((D.cut j (by omega) h4).symm.trans (hcut j (by omega) h4)).1 h1
          · have := ((D.cut x (by omega) h7).symm.trans (hcut x (by omega) h7)).1 h6; omega
        have := hm (j + 1) i (by omega) (by omega)
        omega
    · have h4 := Tt.news (D.lt j h1) h3
      have hji := O.ancLt i (by rw [← O.len]; exact hi) j h2
      have := hm (j + 1) i (by omega) (by omega)
      omega
theorem Tr.newsHeap (Tt : Tr call cops S K V) {i : Nat} (hi : i < cops.length) {v : AV} {h : T AObj} {n n' : Nat} (he : (S (i + 1)).pend = newsOf i v h n n' (S i).pend) {id : Nat} {o : AObj} (hn : NewsAt S i id o) : h.get id = some o := by
  obtain ⟨l, hl, ho⟩ := hn
  rw [he] at hl
  rcases newsOf_mem hl with h1 | ⟨_, rfl⟩
  · exact absurd (Tt.pend i (by omega) _ _ h1).1 (Nat.lt_irrefl _)
  · exact (collect_mem ho).1
theorem sameAt_get {r : LoadR} : ∀ {l : List (T AObj)} {lo n : Nat}, sameAt r l lo n = true → ∀ k, lo ≤ k → k < lo + n → ∃ b, l[k]? = some b ∧ loadAt b r.p r.n = some r.v := by
  intro l
  induction l with
  | nil =>
    intro lo n h k h1 h2
    cases n with
    | zero => omega
    | succ n => cases lo <;> simp [sameAt] at h
  | cons b l ih =>
    intro lo n h k h1 h2
    cases n with
    | zero => omega
    | succ n =>
      cases lo with
      | zero =>
        simp only [sameAt] at h
        split at h
        · rename_i v hv
          simp only [Bool.and_eq_true] at h
          cases k with
          | zero => exact ⟨b, rfl, by rw [hv, AV.beq_eq h.1]⟩
          | succ k =>
            obtain ⟨b', x, y⟩ := ih h.2 k (by omega) (by omega)
            exact ⟨b', by simpa using x, y⟩
        · cases h
      | succ lo =>
        simp only [sameAt] at h
        cases k with
        | zero => omega
        | succ k =>
          obtain ⟨b', x, y⟩ := ih h k (by omega) (by omega)
          exact ⟨b', by simpa using x, y⟩
theorem checkLoads_get {hards : List (Nat × Nat)} {B : List (T AObj)} : ∀ {l : List LoadR}, checkLoads hards B l = true → ∀ r ∈ l, sameAt r B (countAnc r.anc hards) (lenL hards - countDesc r.j hards - countAnc r.anc hards + 1) = true := by
  intro l
  induction l with
  | nil => intro _ r hr; cases hr
  | cons x l ih =>
    intro h r hr
    simp only [checkLoads, Bool.and_eq_true] at h
    rcases List.mem_cons.1 hr with rfl | hr
    · exact h.1
    · exact ih h.2 r hr
theorem countAnc_append {anc : Nat} : ∀ {l m : List (Nat × Nat)}, countAnc anc (l ++ m) = countAnc anc l + countAnc anc m := by
  intro l
  induction l with
  | nil => intro m; simp [countAnc]
  | cons p l ih =>
    intro m
    obtain ⟨h, a⟩ := p
    simp only [List.cons_append, countAnc, ih]
    split <;> omega
theorem countAnc_le {anc : Nat} : ∀ {l : List (Nat × Nat)}, countAnc anc l ≤ l.length := by
  intro l
  induction l with
  | nil => simp [countAnc]
  | cons p l ih =>
    obtain ⟨h, a⟩ := p
    simp only [countAnc, List.length_cons]
    split <;> omega
theorem countAnc_zero {anc : Nat} : ∀ {l : List (Nat × Nat)}, (∀ p ∈ l, anc.testBit p.1 = false) → countAnc anc l = 0 := by
  intro l
  induction l with
  | nil => intro _; rfl
  | cons p l ih =>
    intro h
    obtain ⟨x, a⟩ := p
    have h1 : anc.testBit x = false := h (x, a) (by simp)
    have h2 := ih fun p hp => h p (List.mem_cons_of_mem _ hp)
    simp only [countAnc]
    split
    · rename_i hb; have : anc.testBit x = true := hb; rw [h1] at this; cases this
    · exact h2
theorem countDesc_append {j : Nat} : ∀ {l m : List (Nat × Nat)}, countDesc j (l ++ m) = countDesc j l + countDesc j m := by
  intro l
  induction l with
  | nil => intro m; simp [countDesc]
  | cons p l ih =>
    intro m
    obtain ⟨h, a⟩ := p
    simp only [List.cons_append, countDesc, ih]
    split <;> omega
theorem countDesc_le {j : Nat} : ∀ {l : List (Nat × Nat)}, countDesc j l ≤ l.length := by
  intro l
  induction l with
  | nil => simp [countDesc]
  | cons p l ih =>
    obtain ⟨h, a⟩ := p
    simp only [countDesc, List.length_cons]
    split <;> omega
theorem countDesc_zero {j : Nat} : ∀ {l : List (Nat × Nat)}, (∀ p ∈ l, p.2.testBit j = false) → countDesc j l = 0 := by
  intro l
  induction l with
  | nil => intro _; rfl
  | cons p l ih =>
    intro h
    obtain ⟨x, a⟩ := p
    have h1 : a.testBit j = false := h (x, a) (by simp)
    have h2 := ih fun p hp => h p (List.mem_cons_of_mem _ hp)
    simp only [countDesc]
    split
    · rename_i hb; have : a.testBit j = true := hb; rw [h1] at this; cases this
    · exact h2
theorem revAnd_eq {α : Type} : ∀ {l m : List α}, revAnd l m = l.reverse ++ m := by
  intro l
  induction l with
  | nil => intro m; rfl
  | cons x l ih => intro m; simp [revAnd, ih]
theorem DI.loads (Tt : Tr call cops S K V) (D : DI P ρ E N cops S K V R0 a0 w0 L c R a w) (hl : loadsOk (S cops.length) = true) {i : Nat} {o : COper} (ho : cops[i]? = some o) (hnL : ¬ L i) (hanc : ∀ k, (ancAt cops i).testBit k = true → L k) (hk : K i = .load) :
    ∃ x n, asLoad o.op = some (x, n) ∧ loadAt (S c).base (evA (S i).tm x) n = some (V i) := by
  have hi : i < cops.length := (List.getElem?_eq_some_iff.1 ho).1
  have hcl := D.cutle
  obtain ⟨x, n, h1, h2, h3⟩ := Tt.loads ho hk
  refine ⟨x, n, h1, ?_⟩
  have hm := h3 cops.length hi (Nat.le_refl _)
  unfold loadsOk at hl
  split at hl
  · rename_i he
    have hno : ∀ h, h < cops.length → K h ≠ .hard := by
      intro h hh hkh
      obtain ⟨X, hX, _⟩ := Tt.hards (c := h + 1) cops.length (by omega) (Nat.le_refl _)
      rw [(Tt.isHard hh hkh).2.2.1, he] at hX
      have := congrArg List.length hX
      simp at this
    rw [← D.base Tt (i := i) (by omega) fun h hh hkh => absurd hkh (hno h hh)]
    exact h2
  · have hs := checkLoads_get hl _ hm
    obtain ⟨X, hX, hXp⟩ := Tt.hards (c := c) cops.length hcl (Nat.le_refl _)
    have hB := (Tt.bases (c := c) cops.length hcl (Nat.le_refl _)).2
    simp only at hs
    have hca : countAnc o.anc (S cops.length).hards ≤ (S c).hards.length := by
      rw [hX, countAnc_append, countAnc_zero (l := X)]
      · have := countAnc_le (anc := o.anc) (l := (S c).hards); omega
      · intro p hp
        obtain ⟨h5, h6, h7, _⟩ := hXp p hp
        cases hb : o.anc.testBit p.1 with
        | false => rfl
        | true =>
          have := (D.cut p.1 h6 h7).1 (hanc p.1 (by rw [ancAt_eq ho]; exact hb))
          omega
    have hcd : countDesc i (S cops.length).hards ≤ X.length := by
      rw [hX, countDesc_append, countDesc_zero (l := (S c).hards)]
      · have := countDesc_le (j := i) (l := X); omega
      · intro p hp
        obtain ⟨h5, h6, h7⟩ := Tt.hardsOf hcl hp
        cases hb : p.2.testBit i with
        | false => rfl
        | true =>
          rw [h7] at hb
          exact absurd (D.closed p.1 ((D.cut p.1 (by omega) h6).2 h5) i hb) hnL
    have hlen : lenL (S cops.length).hards = X.length + (S c).hards.length := by rw [lenL_eq, hX]; simp
    rw [revAnd_eq] at hs
    obtain ⟨b, hb, hbl⟩ := sameAt_get hs (S c).hards.length hca (by rw [hlen]; omega)
    rw [hB] at hb; injection hb with hb; subst hb
    exact hbl
end
end Go.Ab

namespace Go.Ab
section
variable {P : Program} {ρ : Nat → Int} {E : T Unit} {N : Nat} {call : CallV} {ops : Array Oper} {cops : List COper} {S : Nat → DR} {K : Nat → Kd} {V : Nat → AV} {R0 : Inj} {a0 : Act} {w0 : World} {L : Nat → Prop} {c : Nat} {R : Inj} {a : Act} {w : World}
theorem Step.leaf {st' : St} {w' : World} {R' : Inj} {n n' low : Nat} (iv : ∀ id o, (T.leaf : T AObj).get id = some o → False) : Inv P ρ R (T.leaf : T AObj) w := ⟨fun id o h => (iv id o h).elim, fun i j o o' l l' h => (iv i o h).elim⟩
theorem inv_leaf : Inv P ρ R (T.leaf : T AObj) w := ⟨fun id o h => by simp [T.get_leaf] at h, fun i j o o' l l' h => by simp [T.get_leaf] at h⟩
theorem DI.step (CS : CallSound P ρ call) {F : Fence} (hF : Wide F) (O : DO P E N ops cops) (Tt : Tr call cops S K V) (hl : loadsOk (S cops.length) = true) (hcd : Conds ρ (S cops.length).tr) (wf : ∀ id, (S 0).next ≤ id → (S 0).base.get id = none)
    (D : DI P ρ E N cops S K V R0 a0 w0 L c R a w) {i : Nat} (hi : i < cops.length) (hnL : ¬ L i) (hanc : ∀ k, (ancAt cops i).testBit k = true → L k) {Q : Exit → Act → World → Prop} {next : Act → World → Prop}
    (hK : ∀ a' w' R' c', DI P ρ E N cops S K V R0 a0 w0 (with1 L i) c' R' a' w' → next a' w') : wpOpIn F 0 P ops Q i next a w := by
  have cm : CallMono call := CS.mono
  have hm : ∀ a b, a ≤ b → b ≤ cops.length → (S a).next ≤ (S b).next := fun x y h1 h2 => (Tt.mono cm y h1 h2).next
  have hci : ∀ x, x ≤ cops.length → Conds ρ (S x).tr := by
    intro x hx
    obtain ⟨l, e⟩ := (Tt.mono cm (a := x) cops.length hx (Nat.le_refl _)).tr
    intro p hp
    exact hcd p (by rw [e]; exact List.mem_append_right _ hp)
  have his : i < ops.size := by rw [← O.len]; exact hi
  obtain ⟨o, hoi⟩ : ∃ o, ops[i]? = some o := ⟨_, Array.getElem?_eq_getElem his⟩
  obtain ⟨av, hco, hav⟩ := O.get i o hoi
  have hdN : ∀ d, dstAt cops i = some d → d < N := fun d h => (O.dst i d h).1
  have fr : Fresh R (S i).next (S (i + 1)).next := fun id h1 h2 => D.fresh i hi hnL id h1 h2
  obtain ⟨tmx, ttr, htx⟩ := D.tr
  have C : Ctx ρ R E [] N tmx a := ⟨ttr, fun _ _ _ hf => (by cases hf), D.glob⟩
  have agree : ∀ {t : Nat}, t ∈ (cOper P E [] ops av o).reads → evA (S i).tm (.t t) = evA tmx (.t t) := fun hr => D.agree O Tt hi hnL hanc hco htx hr
  have hst := Tt.step i _ hco
  have hdst : ∀ {g : Option (CA × Bool)}, cGuard E [] ops o.guard = some g → dstAt cops i = o.dst := by
    intro g hg
    rw [dstAt_eq hco]; unfold cOper; rw [hg]; cases cOp P E [] o <;> rfl
  unfold wpOpIn
  rw [hoi]
  simp only
  cases hg : cGuard E [] ops o.guard with
  | none =>
    exfalso
    have hbad : (cOper P E [] ops av o).op = .bad 0 := by unfold cOper; rw [hg]
    have hgn : (cOper P E [] ops av o).guard = none := by unfold cOper; rw [hg]
    rcases hst.inv with ⟨_, _, st1, h1, _⟩ | ⟨st1, s1, _, h2, _⟩
    · rw [hgn] at h1; simp only [wantK, Except.ok.injEq, Prod.mk.injEq] at h1; cases h1.1
    · rcases h2.inv with ⟨_, st, h3, h4, _⟩ | ⟨_, st, h4, _⟩ | ⟨_, x, n, h4, _⟩ | ⟨_, st, h4, _⟩ | ⟨_, st, h4, _⟩
      · rw [hbad] at h4; simp only [evOp, opBad] at h4; cases h4
      · rw [hbad] at h4; simp only [evOp, opBad] at h4; cases h4
      · rw [hbad] at h4; simp only [asLoad] at h4; cases h4
      · rw [hbad] at h4; simp only [evOp, opBad] at h4; cases h4
      · rw [hbad] at h4; simp only [evOp, opBad] at h4; cases h4
  | some cg =>
    have hcg : (cOper P E [] ops av o).guard = cg := by unfold cOper; rw [hg]; cases cOp P E [] o <;> rfl
    have hdd : dstAt cops i = o.dst := hdst hg
    have wantd : ∀ b st1, wantK (cOper P E [] ops av o).guard (S i).tm ((S i).st .leaf (S i).low) (fun b st => .ok (b, st)) = .ok (b, st1) → SameSt ((S i).st .leaf (S i).low) st1 ∧ (Conds ρ st1.tr → Region.wanted o (yielded ops a.tmps) = b) := by
      intro b st1 h
      rw [wantK_congr (tm' := tmx) fun x want hx => by
        cases x with
        | t t => exact agree (reads_guard hx)
        | v v => rfl] at h
      rw [hcg] at h
      obtain ⟨b', st1', h1, h2, h3⟩ := want_ok C hg h
      simp only [Except.ok.injEq, Prod.mk.injEq] at h1
      obtain ⟨rfl, rfl⟩ := h1
      exact ⟨h2, fun hc => h3 hc o rfl⟩
    rcases hst.inv with ⟨hk, hv, st1, h1, hs1⟩ | ⟨st1, s1, h1, hop, hs1⟩
    ·
      obtain ⟨hsame, hwant⟩ := wantd false st1 h1
      have htr : (S (i + 1)).tr = st1.tr := by rw [hs1]
      have hnx : (S (i + 1)).next = (S i).next := by rw [hs1]
      rw [hwant (by rw [← htr]; exact hci _ (by omega))]
      simp only [Bool.false_eq_true, if_false]
      refine ⟨fun f _ => hF.fn f, ?_⟩
      rw [← hdd]
      have s0 : Step P ρ R (T.leaf : T AObj) w R (T.leaf : T AObj) w 0 (S i).next (S (i + 1)).next := by rw [hnx]; exact Step.refl inv_leaf _ _
      exact hK _ _ R c (D.soft Tt hm O.uniq hi hnL hanc (by rw [hk]; simp) hdN s0 (fun id o h => by simp [T.get_leaf] at h) (fun id o h => by simp [T.get_leaf] at h)
        (fun id o h => by have := (Tt.news hi h).1; rw [hk] at this; rcases this with h | h <;> cases h) (by rw [hv]; exact VR.undef))
    ·
      obtain ⟨hsame, hwant⟩ := wantd true st1 h1
      have cond1 : Conds ρ st1.tr ∧ True := by
        refine ⟨?_, trivial⟩
        have hsfx : ∃ l, (S (i + 1)).tr = l ++ st1.tr := by
          rw [hs1]
          rcases hop.inv with ⟨_, st, _, h4, rfl⟩ | ⟨_, st, h4, _, rfl⟩ | ⟨_, x, n, _, _, rfl⟩ | ⟨_, st, h4, _, _, rfl⟩ | ⟨_, st, h4, _, _, rfl⟩
          · exact (evOp_mono cm h4).tr
          · exact (evOp_mono cm h4).tr
          · exact ⟨[], rfl⟩
          · exact (evOp_mono cm h4).tr
          · exact (evOp_mono cm h4).tr
        obtain ⟨l, e⟩ := hsfx
        intro p hp
        exact hci (i + 1) (by omega) p (by rw [e]; exact List.mem_append_right _ hp)
      rw [hwant cond1.1]
      simp only [if_true]
      have hopc : (∃ co, cOp P E [] o = some co ∧ (cOper P E [] ops av o).op = co) ∨ ∃ k, (cOper P E [] ops av o).op = .bad k := by
        unfold cOper; rw [hg]
        cases hc : cOp P E [] o with
        | some co => exact .inl ⟨co, rfl, rfl⟩
        | none => exact .inr ⟨_, rfl⟩
      rcases hopc with ⟨co, hco', hcoe⟩ | ⟨kb, hbad⟩
      rotate_left
      · exfalso
        rcases hop.inv with ⟨_, st, h3, h4, _⟩ | ⟨_, st, h4, _⟩ | ⟨_, x, n, h4, _⟩ | ⟨_, st, h4, _⟩ | ⟨_, st, h4, _⟩
        · rw [hbad] at h4; simp only [evOp, opBad] at h4; cases h4
        · rw [hbad] at h4; simp only [evOp, opBad] at h4; cases h4
        · rw [hbad] at h4; simp only [asLoad] at h4; cases h4
        · rw [hbad] at h4; simp only [evOp, opBad] at h4; cases h4
        · rw [hbad] at h4; simp only [evOp, opBad] at h4; cases h4
      have args : ∀ x ∈ co.args, evA (S i).tm x = evA tmx x := by
        intro x hx
        cases x with
        | t t => exact agree (reads_arg (by rw [hcoe]; exact hx))
        | v v => rfl
      have hanc' : (cOper P E [] ops av o).anc = ancAt cops i := by rw [ancAt_eq hco]
      have soft : ∀ (hI : T AObj) (low nx : Nat) (st : St), evOp co (S i).tm { heap := hI, next := nx, low := low, sc := st1.sc, tr := st1.tr } call = .ok (V i, st) → K i ≠ .hard → (nx = (S i).next ∧ (S (i + 1)).next = st.next ∨ (S (i + 1)).next = (S i).next ∧ st.next = nx) → Conds ρ st.tr →
          (∀ id o, hI.get id = some o → Live cops S K L c id o) → (∀ id, nx ≤ id → hI.get id = none) → (∀ id o, hI.get id = some o → id < st.low) → (∀ id o, NewsAt S i id o → st.heap.get id = some o) → o.wpIn F 0 P a w next Q := by
        intro hI low nx st hev hkn hnx hct hlive hwf hlow hnews
        rw [evOp_congr args] at hev
        have iv : InvW P ρ R ({ heap := hI, next := nx, low := low, sc := st1.sc, tr := st1.tr } : St) w := ⟨⟨fun id o h => D.live id o (hlive id o h), fun i1 i2 o1 o2 l1 l2 h1 h2 => D.inj i1 i2 o1 o2 l1 l2 (hlive _ _ h1) (hlive _ _ h2)⟩, hwf⟩
        have hfr : Fresh R nx st.next := by
          rcases hnx with ⟨e1, e2⟩ | ⟨e1, e2⟩
          · rw [e1, ← e2]; exact fr
          · intro id h1 h2; omega
        refine op_wp hF CS C hco' hev iv hfr hct fun cv w' R' hv hs => ?_
        rw [← hdd]
        have s' : Step P ρ R hI w R' st.heap w' st.low (S i).next (S (i + 1)).next := by
          rcases hnx with ⟨e1, e2⟩ | ⟨e1, e2⟩
          · rw [e2, ← e1]; exact hs
          · rw [e1]
            have hs : Step P ρ R hI w R' st.heap w' st.low nx st.next := hs
            rw [e2] at hs
            exact ⟨hs.inv, fun id _ => hs.ext id (by omega), hs.size, hs.keep, hs.news, hs.tape, hs.os, hs.out, fun id h _ => hs.dom id h (by omega)⟩
        exact hK _ _ R' c (D.soft Tt hm O.uniq hi hnL hanc hkn hdN s' hlive hlow hnews hv)
      have quietNews : (K i = .quiet ∨ K i = .load) → ∀ (h : T AObj) id o, NewsAt S i id o → h.get id = some o := by
        intro hk h id o hn
        have := (Tt.news hi hn).1
        rcases hk with hk | hk <;> rw [hk] at this <;> rcases this with h | h <;> cases h
      have hci1 := hci (i + 1) (by omega)
      rcases hop.inv with ⟨hk, st, h3, h4, h5⟩ | ⟨hk, st, h4, h6, h5⟩ | ⟨hk, x, n, h4, h6, h5⟩ | ⟨hk, st, h4, h6, h7, h5⟩ | ⟨hk, st, h4, h6, h7, h5⟩
      ·
        rw [hcoe] at h3 h4
        have hsm := evOp_same h3 h4
        have e1 : (S (i + 1)).next = (S i).next := by rw [hs1, h5]
        have e2 : (S (i + 1)).tr = st.tr := by rw [hs1, h5]
        exact soft .leaf (S i).low (S i).next st h4 (by rw [hk]; simp) (.inr ⟨e1, hsm.next⟩) (by rw [← e2]; exact hci1) (fun id o h => by simp [T.get_leaf] at h) (fun id _ => rfl) (fun id o h => by simp [T.get_leaf] at h) (quietNews (.inl hk) _)
      ·
        rw [hcoe] at h4
        have e1 : (S (i + 1)).next = st.next := by rw [hs1, h5]
        have e2 : (S (i + 1)).tr = st.tr := by rw [hs1, h5]
        have e3 : (S (i + 1)).pend = newsOf i (V i) st.heap (S i).next st.next (S i).pend := by rw [hs1, h5]
        exact soft .leaf (S i).next (S i).next st h4 (by rw [hk]; simp) (.inl ⟨rfl, e1⟩) (by rw [← e2]; exact hci1) (fun id o h => by simp [T.get_leaf] at h) (fun id _ => rfl) (fun id o h => by simp [T.get_leaf] at h) (fun id o h => Tt.newsHeap hi e3 h)
      ·
        obtain ⟨x', n', h7, h8⟩ := D.loads Tt hl hco hnL hanc hk
        rw [h4] at h7; simp only [Option.some.injEq, Prod.mk.injEq] at h7
        obtain ⟨rfl, rfl⟩ := h7
        rw [hcoe] at h4
        have e1 : (S (i + 1)).next = (S i).next := by rw [hs1, h5]
        have e2 : (S (i + 1)).tr = st1.tr := by rw [hs1, h5]
        have hev : evOp co (S i).tm { heap := (S c).base, next := (S cops.length).next, low := (S cops.length).next, sc := st1.sc, tr := st1.tr } call = .ok (V i, { heap := (S c).base, next := (S cops.length).next, low := (S cops.length).next, sc := st1.sc, tr := st1.tr }) := by
          rw [(asLoad_ev h4).1]; simp only; rw [h8]; rfl
        have hclt : ∀ id o, (S c).base.get id = some o → id < (S cops.length).next := by
          intro id o h
          rcases D.bi id o h with h | ⟨j, h1, h2, h3, _⟩
          · rcases Nat.lt_or_ge id (S 0).next with h1 | h1
            · exact Nat.lt_of_lt_of_le h1 (hm 0 _ (Nat.zero_le _) (Nat.le_refl _))
            · exact absurd (wf id h1) h
          · have := D.cutle
            exact Nat.lt_of_lt_of_le h3 (hm (j + 1) _ (by omega) (Nat.le_refl _))
        exact soft _ _ _ _ hev (by rw [hk]; simp) (.inr ⟨e1, rfl⟩) (by rw [← e2]; exact hci1) (fun id o h => .inl h) (fun id h => by
          cases hg : (S c).base.get id with
          | none => rfl
          | some o => have := hclt id o hg; omega) hclt (quietNews (.inr hk) _)
      ·
        rw [hcoe, hanc'] at h4
        have e1 : (S (i + 1)).next = st.next := by rw [hs1, h5]
        have e2 : (S (i + 1)).tr = st.tr := by rw [hs1, h5]
        have e3 : (S (i + 1)).pend = newsOf i (V i) st.heap (S i).next st.next (S i).pend := by rw [hs1, h5]
        have hcut := D.cutSoft Tt hi hnL hanc hk
        have hseen := D.seen Tt hi hanc hcut
        have hlt := D.seenLt Tt hm wf O hi hanc hcut
        have h7 : (S i).next ≤ st.low := h7
        refine soft _ _ (S i).next st h4 (by rw [hk]; simp) (.inl ⟨rfl, e1⟩) (by rw [← e2]; exact hci1) (fun id o h => ?_) hlt (fun id o h => ?_) (fun id o h => Tt.newsHeap hi e3 h)
        · rcases hseen id o h with h | ⟨j, h8, _, h9, h10⟩
          · exact .inl h
          · exact .inr ⟨j, h8, h9, h10⟩
        · rcases Nat.lt_or_ge id (S i).next with h1 | h1
          · omega
          · have h : (heapFor (S i).base (ancAt cops i) (S i).pend).get id = some o := h
            rw [hlt id h1] at h; cases h
      ·
        rw [hcoe, hanc'] at h4
        have e1 : (S (i + 1)).next = st.next := by rw [hs1, h5]
        have e2 : (S (i + 1)).tr = st.tr := by rw [hs1, h5]
        have e3 : (S (i + 1)).base = st.heap := by rw [hs1, h5]
        have e4 : (S (i + 1)).low ≤ st.low := by rw [hs1, h5]; exact (lowered_le _ _).2
        have hcut := D.cutHard Tt hi hnL hanc hk
        have hseen := D.seen Tt hi hanc hcut
        have hlt := D.seenLt Tt hm wf O hi hanc hcut
        rw [evOp_congr args] at h4
        have hlive : ∀ id o, (heapFor (S i).base (ancAt cops i) (S i).pend).get id = some o → Live cops S K L c id o := by
          intro id o h
          rcases hseen id o h with h | ⟨j, h8, _, h9, h10⟩
          · exact .inl h
          · exact .inr ⟨j, h8, h9, h10⟩
        have iv : InvW P ρ R ({ heap := heapFor (S i).base (ancAt cops i) (S i).pend, next := (S i).next, low := (S i).next, sc := st1.sc, tr := st1.tr } : St) w :=
          ⟨⟨fun id o h => D.live id o (hlive id o h), fun i1 i2 o1 o2 l1 l2 h1 h2 => D.inj i1 i2 o1 o2 l1 l2 (hlive _ _ h1) (hlive _ _ h2)⟩, hlt⟩
        refine op_wp hF CS C hco' h4 iv (by rw [← e1]; exact fr) (by rw [← e2]; exact hci1) fun cv w' R' hv hs => ?_
        rw [← hdd]
        have s' : Step P ρ R (heapFor (S i).base (ancAt cops i) (S i).pend) w R' (S (i + 1)).base w' st.low (S i).next (S (i + 1)).next := by rw [e3, e1]; exact hs
        exact hK _ _ R' (i + 1) (D.hard Tt hm O.uniq wf hi hnL hanc (O.ancLt i his) hk hdN hcut s' hseen (Nat.le_trans (Tt.mono cm (a := i + 1) cops.length (by omega) (Nat.le_refl _)).low e4) hv)
end
end Go.Ab

namespace Go.Ab
section
variable {P : Program} {ρ : Nat → Int} {E : T Unit} {N : Nat} {call : CallV} {ops : Array Oper} {cops : List COper} {S : Nat → DR} {K : Nat → Kd} {V : Nat → AV} {R0 : Inj} {a0 : Act} {w0 : World} {L : Nat → Prop} {c : Nat} {R : Inj} {a : Act} {w : World}
def unl (m : Nat) (listed : Array Bool) : Nat := ((List.range m).filter fun j => !listed.getD j true).length
theorem filter_less {p q : Nat → Bool} : ∀ {l : List Nat}, (∀ x, q x = true → p x = true) → (∃ x ∈ l, p x = true ∧ q x = false) → (l.filter q).length < (l.filter p).length := by
  intro l
  induction l with
  | nil => rintro _ ⟨x, h, _⟩; cases h
  | cons y l ih =>
    rintro hs ⟨x, hx, hp, hq⟩
    have le : ∀ {l : List Nat}, (l.filter q).length ≤ (l.filter p).length := by
      intro l
      induction l with
      | nil => simp
      | cons z l ih2 =>
        simp only [List.filter_cons]
        cases hq' : q z with
        | true => rw [hs z hq']; simp; exact ih2
        | false => cases p z <;> simp <;> omega
    simp only [List.filter_cons]
    rcases List.mem_cons.1 hx with rfl | hx
    · rw [hp, hq]; simp; have := le (l := l); omega
    · have := ih hs ⟨x, hx, hp, hq⟩
      cases hq' : q y with
      | true => rw [hs y hq']; simp; exact this
      | false => cases p y <;> simp <;> omega
theorem DI.any (CS : CallSound P ρ call) {F : Fence} (hF : Wide F) (O : DO P E N ops cops) (Tt : Tr call cops S K V) (hl : loadsOk (S cops.length) = true) (hcd : Conds ρ (S cops.length).tr) (wf : ∀ id, (S 0).next ≤ id → (S 0).base.get id = none) {Q : Exit → Act → World → Prop}
    (hQ : ∀ L c R a w, (∀ j, j < cops.length → L j) → DI P ρ E N cops S K V R0 a0 w0 L c R a w → Q .normal a w) :
    ∀ (fuel : Nat) (listed : Array Bool) (L : Nat → Prop) (c : Nat) (R : Inj) (a : Act) (w : World), listed.size = ops.size → (∀ j, L j ↔ listed.getD j false = true) → unl ops.size listed ≤ fuel → DI P ρ E N cops S K V R0 a0 w0 L c R a w →
      wpAnyIn F 0 P .any ops Q fuel listed a w := by
  have full : ∀ (listed : Array Bool) (L : Nat → Prop), listed.size = ops.size → (∀ j, L j ↔ listed.getD j false = true) → Region.ready .any ops listed = [] → ∀ j, j < cops.length → L j := by
    intro listed L hsz hL hr j
    rw [O.len]
    induction j using Nat.strongRecOn with
    | _ j ih =>
      intro hj
      rw [hL]
      cases hb : listed.getD j true with
      | true =>
        have hj' : j < listed.size := by omega
        simp only [Array.getD_eq_getD_getElem?, Array.getElem?_eq_getElem hj', Option.getD_some] at hb ⊢
        exact hb
      | false =>
        exfalso
        have ho := Array.getElem?_eq_getElem hj
        have : j ∈ Region.ready .any ops listed := mem_ready.2 ⟨hb, _, ho, fun e he hbd => (hL _).1 (ih e.on ((O.edge j _ ho).1 e he hbd) (by have := (O.edge j _ ho).1 e he hbd; omega))⟩
        rw [hr] at this; cases this
  intro fuel
  induction fuel with
  | zero =>
    intro listed L c R a w hsz hL hu D
    have hr : Region.ready .any ops listed = [] := by
      cases hh : Region.ready .any ops listed with
      | nil => rfl
      | cons i rest =>
        exfalso
        have hi : i ∈ Region.ready .any ops listed := by rw [hh]; simp
        obtain ⟨h1, o, ho, _⟩ := mem_ready.1 hi
        have hlt : i < ops.size := (Array.getElem?_eq_some_iff.1 ho).1
        have : i ∈ (List.range ops.size).filter fun j => !listed.getD j true := List.mem_filter.2 ⟨List.mem_range.2 hlt, by rw [h1]; rfl⟩
        have := List.length_pos_of_mem this
        unfold unl at hu; omega
    exact ⟨hr, hQ L c R a w (full listed L hsz hL hr) D⟩
  | succ fuel ih =>
    intro listed L c R a w hsz hL hu D
    refine ⟨fun hr => hQ L c R a w (full listed L hsz hL hr) D, fun i hi => ?_⟩
    obtain ⟨h1, o, ho, hedge⟩ := mem_ready.1 hi
    have hlt : i < ops.size := (Array.getElem?_eq_some_iff.1 ho).1
    have hlt' : i < listed.size := by omega
    have hnL : ¬ L i := by
      rw [hL]
      simp only [Array.getD_eq_getD_getElem?, Array.getElem?_eq_getElem hlt', Option.getD_some] at h1 ⊢
      rw [h1]; simp
    have hanc : ∀ k, (ancAt cops i).testBit k = true → L k := by
      intro k hk
      obtain ⟨e, he, hb, h⟩ := (O.edge i o ho).2 k hk
      have hLe : L e.on := (hL _).2 (hedge e he hb)
      rcases h with rfl | h
      · exact hLe
      · exact D.closed _ hLe k h
    refine D.step CS hF O Tt hl hcd wf (by rw [O.len]; exact hlt) hnL hanc fun a' w' R' c' D' => ih (listed.setIfInBounds i true) (with1 L i) c' R' a' w' (by simpa using hsz) (fun j => ?_) ?_ D'
    · by_cases hji : j = i
      · subst hji
        refine ⟨fun _ => ?_, fun _ => .inr rfl⟩
        simp [Array.getD_eq_getD_getElem?, Array.getElem?_setIfInBounds_self_of_lt hlt']
      · rw [Go.getD_set_ne false (fun h => hji h.symm), ← hL]
        exact ⟨fun h => h.resolve_right hji, .inl⟩
    · have : unl ops.size (listed.setIfInBounds i true) < unl ops.size listed := by
        refine filter_less (fun x hx => ?_) ⟨i, List.mem_range.2 hlt, by rw [h1]; rfl, ?_⟩
        · by_cases hxi : x = i
          · subst hxi; simp [Array.getD_eq_getD_getElem?, Array.getElem?_setIfInBounds_self_of_lt hlt'] at hx
          · rw [Go.getD_set_ne true (fun h => hxi h.symm)] at hx; exact hx
        · simp [Array.getD_eq_getD_getElem?, Array.getElem?_setIfInBounds_self_of_lt hlt']
      omega
theorem draw_ok (hord : P.follows .mixedOrders = true) (CS : CallSound P ρ call) : DrawOK P ρ call := by
  intro E N F hF id ops tm tm' st st' hok h R a w t gl iv hf hcd Q hQ
  have O := drawOk_DO hok
  generalize hcops : cDrawOpers P E ops ops.toList (Region.before ops).toList = cops at *
  obtain ⟨hp, n0, lo, sc, tr⟩ := st
  simp only [evDrawAll] at h
  split at h
  · cases h
  rename_i s he
  split at h
  rotate_left
  · cases h
  rename_i hlo
  simp only [Except.ok.injEq, Prod.mk.injEq] at h
  obtain ⟨rfl, rfl⟩ := h
  obtain ⟨S, K, V, h0, hm, hst⟩ := evDraw_trace cops 0 _ _ he
  rw [Nat.zero_add] at hm
  have Tt : Tr call cops S K V := ⟨fun i o ho => by have := hst i o ho; simpa using this, by rw [h0], by rw [h0], by rw [h0]⟩
  have cm : CallMono call := CS.mono
  rw [← hm] at hlo hf hcd hQ
  have hcd : Conds ρ (S cops.length).tr := hcd
  have hf : Fresh R n0 (S cops.length).next := hf
  have e0 : (S 0).next = n0 := by rw [h0]
  have eb : (S 0).base = hp := by rw [h0]
  have et : (S 0).tm = tm := by rw [h0]
  have wf : ∀ id, (S 0).next ≤ id → (S 0).base.get id = none := by rw [e0, eb]; exact iv.wf
  refine wpIn_region_any hord ?_
  let w0 : World := { w with drawn := w.drawn + 1 }
  have D0 : DI P ρ E N cops S K V R a w0 (fun _ => False) 0 R a w0 := by
    refine ⟨fun j h => h.elim, fun j h => h.elim, Nat.zero_le _, fun h _ _ => ⟨fun h => h.elim, fun h => by omega⟩, ⟨tm, t, fun x => ⟨fun k h => h.elim, fun _ => by rw [et]⟩⟩, rfl, gl, fun _ _ => rfl, fun j hj _ id h1 h2 => ?_, fun id o h => ?_, fun i j o o' l l' h1 h2 => ?_, fun id o h => ?_,
      Nat.le_refl _, fun _ _ => rfl, fun id o l h hr => ?_, rfl, rfl, rfl⟩
    · have m1 := (Tt.mono cm (a := 0) j (Nat.zero_le _) (by omega)).next
      have m2 := (Tt.mono cm (a := j + 1) cops.length (by omega) (Nat.le_refl _)).next
      exact hf id (by omega) (by omega)
    · rcases h with h | ⟨j, h, _⟩
      · rw [eb] at h; exact iv.inv.live id o h
      · exact h.elim
    · rcases h1 with h1 | ⟨j, h, _⟩
      · rcases h2 with h2 | ⟨j, h, _⟩
        · rw [eb] at h1 h2; exact iv.inv.inj i j o o' l l' h1 h2
        · exact h.elim
      · exact h.elim
    · left; rw [h]; simp
    · rcases h with h | ⟨j, h, _⟩
      · exact .inl ⟨o, h, hr⟩
      · exact h.elim
  refine DI.any CS hF O Tt hlo hcd wf (R0 := R) (a0 := a) (w0 := w0) (fun L c R' a' w' hL D => ?_) ops.size _ _ 0 R a w0 (by simp) (fun j => ?_) ?_ D0
  · have hcl := D.cutle
    have hbase : (S cops.length).base = (S c).base := Tt.base cops.length hcl (Nat.le_refl _) fun h h1 h2 hk => by have := (D.cut h h2 hk).1 (hL h h2); omega
    have hlive : ∀ id o, (heapAll (S cops.length).base (S cops.length).pend).get id = some o → Live cops S K L c id o := by
      intro id o h
      rcases heapAll_get h with ⟨j, l, h1, h2⟩ | h1
      · obtain ⟨h3, h4, h5⟩ := Tt.pend cops.length (Nat.le_refl _) j l h1
        exact .inr ⟨j, hL j h3, ⟨l, h4, h2⟩, fun h h6 h7 h8 => h5 h h6 (by omega) h8⟩
      · exact .inl (by rw [← hbase]; exact h1)
    obtain ⟨tmx, ttr, htx⟩ := D.tr
    refine hQ a' w' R' ⟨ttr.size, fun x hx => ?_⟩ D.defers ⟨⟨fun id o h => D.live id o (hlive id o h), fun i j o o' l l' h1 h2 => D.inj i j o o' l l' (hlive _ _ h1) (hlive _ _ h2)⟩, fun id hid => ?_, D.size, fun b hb => ?_, fun id o l h hr => ?_, D.tape, D.os, D.out, fun id h0' hid => ?_⟩
    · have e : evA (S cops.length).tm (.t x) = evA tmx (.t x) := by
        have htm := Tt.tm O.uniq cops.length (Nat.le_refl _) x
        by_cases hex : ∃ k, k < cops.length ∧ dstAt cops k = some x
        · obtain ⟨k, hk, hkx⟩ := hex
          rw [htm.1 k hk hkx, (htx x).1 k (hL k hk) hkx]
        · rw [htm.2 fun k hk hkx => hex ⟨k, hk, hkx⟩, (htx x).2 fun k hk hkx => hex ⟨k, D.lt k hk, hkx⟩]
      rw [e]
      exact ttr.rel x hx
    · refine D.ext id fun hc => hid ⟨by rw [← e0]; exact hc.1, hc.2⟩
    · refine D.keep b fun hc => hb ?_
      rw [eb] at hc
      exact hc
    · have := D.news id o l (hlive id o h) hr
      rw [eb] at this
      exact this
    · cases hg : (heapAll (S cops.length).base (S cops.length).pend).get id with
      | none => rfl
      | some o =>
        exfalso
        have inrange : ∀ j, j < cops.length → (S j).next ≤ id → id < (S (j + 1)).next → False := fun j hj h1 h2 => by
          have m1 := (Tt.mono cm (a := 0) j (Nat.zero_le _) (by omega)).next
          have m2 := (Tt.mono cm (a := j + 1) cops.length (by omega) (Nat.le_refl _)).next
          exact hid ⟨by show n0 ≤ id; omega, by show id < (S cops.length).next; omega⟩
        rcases hlive id o hg with h | ⟨j, h1, h2, _⟩
        · rcases D.bi id o h with h | ⟨j, h1, h2, h3, _⟩
          · rw [eb] at h; exact h h0'
          · exact inrange j (by omega) h2 h3
        · have := Tt.news (D.lt j h1) h2
          exact inrange j (D.lt j h1) this.2.1 this.2.2
  · simp only [false_iff, Bool.not_eq_true]
    simp only [Array.getD_eq_getD_getElem?, Array.getElem?_replicate]
    split <;> rfl
  · unfold unl
    have := List.length_filter_le (fun j => !(Array.replicate ops.size false).getD j true) (List.range ops.size)
    simpa using this
end
theorem code_sound {P : Program} {ρ : Nat → Int} {G : Env} (OK : EnvOK P ρ G) (n : Nat) : EvSound P ρ (ev G n) ∧ EvMono (ev G n) := ev_sound OK (fun _ CS => draw_ok OK.orders CS) n
theorem call_sound {P : Program} {ρ : Nat → Int} {G : Env} (OK : EnvOK P ρ G) {n : Nat} {f : Nat} {args : List AV} {st st' : St} {v : AV} (h : callFn G (ev G n) f args st = .ok (v, st')) {R : Inj} {w : World} {cargs : Array Value}
    (ha : VRs ρ R args cargs.toList) (gl : Glob R) (iv : InvW P ρ R st w) (hf : Fresh R st.next st'.next) (hcd : Conds ρ st'.tr) :
    Upon P (fun cv w' => ∃ R', VR ρ R' v cv ∧ Step P ρ R st.heap w R' st'.heap w' st'.low st.next st'.next) ((callFunc f cargs).run P w) :=
  callFn_run OK (code_sound OK n).1 (code_sound OK n).2 h ha gl iv hf hcd
#print axioms call_sound
end Go.Ab
