/- A part of the proof: AbW1. -/
import Derived.Test.YtkejpghmemnhfaaGreatDoorProg
import Derived.KernelRfl
import Derived.WalkKit
import Derived.OwnWalkIn
import Derived.TacticsInMore
import Derived.RegionIn
import Derived.LoopNIn
import Derived.LoopIn
import Derived.Test.YtkejpghmemnhfaaGreatDoorNAL

set_option linter.unusedVariables false
set_option linter.unusedSimpArgs false

namespace Go.Ab
open Go.Proofs
def lenOf (e : MapEntry) : Nat := match e.val with
  | .agg cs => (match cs.toList with | .string s :: _ => s.size | _ => 0)
  | _ => 0
def lens (l : List MapEntry) : Nat := (l.map lenOf).sum
theorem heap_alloc_new (w : World) (o : Obj) : (w.alloc o).heap[w.heap.size]? = some o := by unfold World.alloc; simp
theorem grew_alloc (w : World) (o : Obj) : Grew w (w.alloc o) := ⟨by unfold World.alloc; simp, fun b hb => by unfold World.alloc; simp [Array.getElem?_push_lt hb, hb], rfl, rfl, rfl⟩
def seenN (w : World) (r : Nat) : Nat := match w.heap[r]? with | some (.mapIter _ _ seen _) => seen.size | _ => 0
theorem range_run {w : World} {t : TypeId} {m clock : Nat} {es : Array MapEntry} {k e : TypeId} {P : Program} (ht : P.underlying t = some (.map k e)) (hm : w.heap[m]? = some (.map es clock)) :
    (Instr.range t (.map (some m))).run P w = .ok (.pointer (some ⟨w.heap.size, 0, none⟩)) (w.alloc (.mapIter (some m) clock #[] clock)) := by
  have h2 : (getObj m).run P w = .ok (.map es clock) w := run_getObj' hm (by intros; simp)
  simp [Instr.range, run_und ht, h2]
set_option maxRecDepth 100000 in
set_option maxHeartbeats 2000000 in
theorem used_in (w : World) (b o m : Nat) (hd : w.cell? ⟨b, o + 1, none⟩ = some (.map (some m))) (es : Array MapEntry) (clock : Nat) (hm : w.heap[m]? = some (.map es clock)) (hB : Born es clock) (hnd : es.toList.Nodup)
    (hv : ∀ e ∈ es, ∃ s k, e.val = .agg #[.string s, .int .i64 k]) (hlt : lens es.toList < 9223372036854775808) :
    CallsIn Fence.wide 0 Tryz.prog 22 #[.pointer (some ⟨b, o, none⟩)] w fun e w' => e = .returned (.int .i64 (lens es.toList)) ∧ Grew w w' := by
  have hms : m < w.heap.size := (Array.getElem?_eq_some_iff.1 hm).1
  refine callsIn_of_wp Tryz.func22 rfl trivial ?_ rfl
  simp only [Tryz.ntmps22, List.size_toArray, List.length_cons, List.length_nil, Nat.reduceAdd, Nat.reduceSub, Array.replicate_succ, Array.replicate_zero, List.push_toArray, List.append_toArray, List.nil_append, List.cons_append]
  gi_wp2
  rw [range_run (P := Tryz.prog) (t := 102) (k := 9) (e := 106) (by kernel_rfl) hm]
  gi_wp2
  gi_loopw [3] (fun v3 wr => ∃ ps rs, (ps ++ rs).Perm es.toList ∧ v3 = .int .i64 (lens ps : Nat) ∧ wr.heap[w.heap.size]? = some (.mapIter (some m) clock (ps.map (·.born)).toArray clock) ∧ Grew w wr) (fun _ wr => es.size - seenN wr w.heap.size)
  case atStart =>
    exact ⟨[], es.toList, by simp, rfl, heap_alloc_new w _, grew_alloc w _⟩
  case round =>
    obtain ⟨ps, rs, hp, rfl, hit, hg⟩ := hrel
    have hm' : wr.heap[m]? = some (.map es clock) := by rw [hg.keep m hms]; exact hm
    have hmem : ∀ e, e ∈ es ↔ e ∈ ps ∨ e ∈ rs := fun e => by
      rw [← List.mem_append, hp.mem_iff]; simp
    have hnd2 : (ps ++ rs).Nodup := hp.nodup_iff.2 hnd
    have hlens : lens ps + lens rs = lens es.toList := by
      have := (hp.map lenOf).sum_nat
      simp only [lens, ← List.sum_append, ← List.map_append]; exact this
    gi_wp2
    rcases next_map (P := Tryz.prog) (t := 0) hit hm' hB with ⟨hall, hrun⟩ | ⟨e, he, hns, k, hrun⟩
    · rw [hrun]
      have hrs : rs = [] := by
        cases rs with
        | nil => rfl
        | cons x rs =>
          exfalso
          have hx := hall x ((hmem x).2 (.inr (by simp)))
          simp only [List.mem_toArray, List.mem_map] at hx
          obtain ⟨y, hy, hyb⟩ := hx
          have := hB.uniq y ((hmem y).2 (.inl hy)) x ((hmem x).2 (.inr (by simp))) hyb
          subst this
          exact (List.nodup_append.1 hnd2).2.2 _ hy _ (by simp) rfl
      subst hrs
      have hl : lens ps = lens es.toList := by simpa [lens] using hlens
      gi_wp2
      go_ret
      exact ⟨rfl, hg⟩
    · rw [hrun]
      generalize hw2 : ({ wr with drawn := k, heap := wr.heap.setIfInBounds w.heap.size (.mapIter (some m) clock ((List.map (fun x => x.born) ps).toArray.push e.born) clock) } : World) = w2
      have hrl : w.heap.size < wr.heap.size := (Array.getElem?_eq_some_iff.1 hit).1
      have hit2 : w2.heap[w.heap.size]? = some (.mapIter (some m) clock ((List.map (fun x => x.born) ps).toArray.push e.born) clock) := by
        rw [← hw2]; simp [hrl]
      have hg2 : Grew w w2 := by
        rw [← hw2]
        exact ⟨by simp; exact hg.size, fun b hb => by rw [← hg.keep b hb]; exact Array.getElem?_setIfInBounds_ne (by omega), hg.tape, hg.os, hg.out⟩
      have hm2 : w2.heap[m]? = some (.map es clock) := by rw [hg2.keep m hms]; exact hm
      obtain ⟨s, kk, hev⟩ := hv e he
      gi_wp2
      rw [entry_map (P := Tryz.prog) hit2 hm2 hB he rfl, hev]
      gi_wp2
      have hrs : e ∈ rs := by
        rcases (hmem e).1 he with h | h
        · exact absurd (by simpa using ⟨e, h, rfl⟩) hns
        · exact h
      obtain ⟨r1, r2, hr12⟩ := List.append_of_mem hrs
      subst hr12
      have hp2 : ((ps ++ [e]) ++ (r1 ++ r2)).Perm es.toList := by
        refine List.Perm.trans ?_ hp
        simp only [List.append_assoc]
        exact List.Perm.append_left _ (by simpa using List.perm_middle.symm)
      have hle : lenOf e = s.size := by simp [lenOf, hev]
      have hl2 : lens (ps ++ [e]) = lens ps + s.size := by simp [lens, hle]
      have hl3 : lens (ps ++ [e]) ≤ lens es.toList := by
        have := (hp2.map lenOf).sum_nat
        simp only [lens, List.map_append, List.sum_append] at this ⊢
        omega
      have hw : RowKit.wrap64 (↑(lens ps) + ↑s.size) = ((lens (ps ++ [e]) : Nat) : Int) := by
        rw [hl2]
        unfold RowKit.wrap64
        omega
      refine ⟨⟨ps ++ [e], r1 ++ r2, hp2, by rw [hw], ?_, hg2.trans (grew_alloc w2 _)⟩, ?_⟩
      · have hlt2 : w.heap.size < w2.heap.size := (Array.getElem?_eq_some_iff.1 hit2).1
        rw [(grew_alloc w2 _).keep _ hlt2, hit2]
        simp
      · have hlt2 : w.heap.size < w2.heap.size := (Array.getElem?_eq_some_iff.1 hit2).1
        have hn1 : seenN wr w.heap.size = ps.length := by simp [seenN, hit]
        have hn2 : seenN (w2.alloc (Obj.cells #[Value.string s, Value.int IntKind.i64 kk] 106)) w.heap.size = ps.length + 1 := by
          simp only [seenN]
          rw [(grew_alloc w2 _).keep _ hlt2, hit2]
          simp
        rw [hn1, hn2]
        have := hp2.length_eq
        simp at this
        omega
section
variable {ρ : Nat → Int} {R : Inj} {w : World}
theorem run_enter {P : Program} {f : Nat} {fn : Func} {c : Code} (hf : P.funcs[f]? = some fn) (hname : (fn.name == "runtime.NumGoroutine") = false) (hb : fn.body = some c) (args : Array Value) (w : World) : (callFunc f args).run P w = .ok (.enter f args) w := by
  have h1 : fn.name ≠ "runtime.NumGoroutine" := by simpa using hname
  simp [callFunc, Sem.run, program, hf, h1, hb]
theorem ERs.mem {l : List (AV × AV × Nat)} {m : List MapEntry} (h : ERs ρ R l m) : ∀ e ∈ m, ∃ x ∈ l, ER ρ R x e := by
  induction h with
  | nil => intro e he; cases he
  | cons a e l m h hs ih =>
    intro e' he'
    rcases List.mem_cons.1 he' with rfl | he'
    · exact ⟨a, by simp, h⟩
    · obtain ⟨x, hx, hr⟩ := ih e' he'; exact ⟨x, List.mem_cons_of_mem _ hx, hr⟩
theorem incr_born {clock : Nat} : ∀ {l : List (AV × AV × Nat)} {prev : Nat} {m : List MapEntry}, incr clock prev l = true → ERs ρ R l m → (∀ e ∈ m, prev ≤ e.born ∧ e.born < clock) ∧ m.Pairwise (fun a b => a.born < b.born) := by
  intro l
  induction l with
  | nil => intro prev m _ h; cases h; exact ⟨fun e he => (by cases he), .nil⟩
  | cons x l ih =>
    intro prev m hi h
    cases h with
    | cons _ e _ m h hs =>
      cases h with
      | mk k v b ck cv hk hv =>
        simp only [incr] at hi
        split at hi
        · rename_i hb
          simp only [Bool.and_eq_true] at hb
          have h1 := ble_true hb.1
          have h2 := blt_true hb.2
          obtain ⟨h3, h4⟩ := ih hi hs
          refine ⟨fun e he => ?_, .cons (fun e he => ?_) h4⟩
          · rcases List.mem_cons.1 he with rfl | he
            · exact ⟨h1, h2⟩
            · have := h3 e he; exact ⟨by omega, this.2⟩
          · have := (h3 e he).1; show b < e.born; omega
        · cases hi
theorem incr_Born {clock prev : Nat} {l : List (AV × AV × Nat)} {es : Array MapEntry} (hi : incr clock prev l = true) (h : ERs ρ R l es.toList) : Born es clock ∧ es.toList.Nodup := by
  obtain ⟨h1, h2⟩ := incr_born hi h
  refine ⟨⟨fun e he => (h1 e (by simpa using he)).2, fun e he e' he' hb => ?_⟩, ?_⟩
  · have key : ∀ {m : List MapEntry}, m.Pairwise (fun a b => a.born < b.born) → ∀ a ∈ m, ∀ b ∈ m, a.born = b.born → a = b := by
      intro m hm
      induction hm with
      | nil => intro a ha; cases ha
      | cons hx _ ih =>
        intro a ha b hb hab
        rcases List.mem_cons.1 ha with h1 | h1 <;> rcases List.mem_cons.1 hb with h2 | h2
        · rw [h1, h2]
        · have := hx b h2; rw [h1] at hab; omega
        · have := hx a h1; rw [h2] at hab; omega
        · exact ih a h1 b h2 hab
    exact key h2 e (by simpa using he) e' (by simpa using he') hb
  · exact h2.imp fun h e => by rw [e] at h; omega
theorem cell_at {h : T AObj} {id off : Nat} {l : Loc} {v : AV} (i : Inv Tryz.prog ρ R h w) (hR : R id = some l) (hl : load1At h id off = some v) : ∃ cv, w.cell? ⟨l.b, l.base + off, none⟩ = some cv ∧ VR ρ R v cv := by
  unfold load1At at hl
  split at hl
  · rename_i e cs fz hg
    obtain ⟨x, hx, ho⟩ := i.at hg hR
    cases ho with
    | cells _ _ _ _ c el fr hc =>
      obtain ⟨cv, h1, h2⟩ := hc.rel off v hl
      exact ⟨cv, by simp [World.cell?, hx, h1], h2⟩
  · cases hl
theorem VR.isMap {id : Nat} {v : Value} (h : VR ρ R (.map id) v) : ∃ l, v = .map (some l.b) ∧ R id = some l := by
  cases h with | map _ l hR => exact ⟨l, rfl, hR⟩
theorem OR.isMap {P : Program} {es : List (AV × AV × Nat)} {clock : Nat} {l : Loc} {x : Obj} (h : OR P ρ R (.map es clock) l x) : ∃ ces : Array MapEntry, x = .map ces clock ∧ ERs ρ R es ces.toList := by
  cases h with | map _ _ _ ces h => exact ⟨ces, rfl, h⟩
theorem sumLens_spec : ∀ {l : List (AV × AV × Nat)} {m : List MapEntry} {a n : Nat}, ERs ρ R l m → sumLens l a = some n → n = a + lens m ∧ ∀ e ∈ m, ∃ s k, e.val = .agg #[.string s, .int .i64 k] := by
  intro l
  induction l with
  | nil => intro m a n h hs; cases h; simp only [sumLens, Option.some.injEq] at hs; subst hs; exact ⟨rfl, fun e he => by cases he⟩
  | cons x l ih =>
    intro m a n h hs
    cases h with
    | cons _ e _ m h hes =>
      cases h with
      | mk k v b ck cv hk hv =>
        unfold sumLens at hs
        split at hs
        · rename_i heq; cases heq
        · rename_i heq
          simp only [List.cons.injEq, Prod.mk.injEq] at heq
          obtain ⟨⟨rfl, rfl, rfl⟩, rfl⟩ := heq
          obtain ⟨h1, h2⟩ := ih hes hs
          cases hv with
          | agg _ cs hcs =>
            obtain ⟨u, u', hcc, hu, hu'⟩ := hcs.pair
            rename_i _x nn bb hh2
            obtain ⟨kk, rfl⟩ : ∃ kk, u' = .int .i64 kk := by cases hu'; exact ⟨_, rfl⟩
            obtain ⟨s, rfl, hss⟩ : ∃ s, u = .string s ∧ s.size = nn := by cases hu with | str _ _ s hss hbb => exact ⟨s, rfl, size_of hss⟩
            · have hc : cs = #[.string s, .int .i64 kk] := by rw [arr_eq hcc]
              have hsz : s.size = nn := hss
              refine ⟨?_, fun e he => ?_⟩
              · have h3 : lenOf { key := ck, val := .agg cs, born := b } = nn := by simp [lenOf, hc, hsz]
                have h4 : lens ({ key := ck, val := .agg cs, born := b } :: m) = nn + lens m := by simp [lens, h3]
                rw [h1, h4]; omega
              · rcases List.mem_cons.1 he with rfl | he
                · exact ⟨s, kk, by rw [hc]⟩
                · exact h2 e he
        · cases hs
set_option maxRecDepth 100000 in
theorem ovUsed_ok : OvOK Tryz.prog ρ 22 (ovUsed 1) := by
  have key : ∀ args st v st', ovUsed 1 args st = .ok (v, st') → ∃ d o id es clock n, args = [.ptr d o] ∧ load1At st.heap d (o + 1) = some (.map id) ∧ st.heap.get id = some (.map es clock) ∧ incr clock 0 es = true ∧ sumLens es 0 = some n ∧ n < 9223372036854775808 ∧ v = .int .i64 (.ofNat n) ∧ st' = st := by
    intro args st v st' h
    unfold ovUsed at h
    split at h
    · rename_i d o
      split at h
      · rename_i id hl
        split at h
        · rename_i es clock hg
          split at h
          · rename_i n hi hs
            split at h
            · rename_i hb
              simp only [forceN_eq] at h
              obtain ⟨rfl, rfl⟩ := ok_inj h
              exact ⟨d, o, id, es, clock, n, rfl, hl, hg, hi, hs, blt_true hb, rfl, rfl⟩
            · cases h
          · cases h
        · cases h
      · cases h
    · cases h
  refine ⟨fun args st v st' h => ?_, fun args st v st' h R w cargs hv gl iv hfr hcd => ?_⟩
  · obtain ⟨_, _, _, _, _, _, _, _, _, _, _, _, _, rfl⟩ := key _ _ _ _ h; exact Mono.refl _
  · obtain ⟨d, o, id, es, clock, n, rfl, hl, hg, hi, hs, hn, rfl, rfl⟩ := key _ _ _ _ h
    obtain ⟨cv, hc, hr⟩ := hv.sing
    cases hr with
    | ptr _ _ l hR =>
      obtain ⟨cm, hcm, hrm⟩ := cell_at iv.inv hR hl
      obtain ⟨lm, hcme, hRm⟩ := hrm.isMap
      obtain ⟨x, hx, ho⟩ := iv.inv.at hg hRm
      obtain ⟨ces, rfl, hes⟩ := ho.isMap
      obtain ⟨hB, hnd⟩ := incr_Born hi hes
      obtain ⟨h1, h2⟩ := sumLens_spec hes hs
      rw [run_enter Tryz.func22 (by kernel_rfl) rfl cargs w]
      simp only [Upon]
      rw [arr_eq hc]
      have hcall := used_in w l.b (l.base + o) lm.b (by rw [hcme] at hcm; exact hcm) ces clock hx hB hnd (fun e he => h2 e (by simpa using he)) (by omega)
      refine hcall.mono ?_
      rintro e w' ⟨rfl, hgr⟩
      refine ⟨_, rfl, R, ?_, hgr.step iv.inv _ _⟩
      rw [h1, Nat.zero_add]; exact .int _ _
end
end Go.Ab
