/- A part of the proof: AbW2. -/
import Derived.Test.YtkejpghmemnhfaaGreatDoorNAM

set_option linter.unusedVariables false
set_option linter.unusedSimpArgs false

namespace Go.Ab
open Go.Proofs
structure Two (w w' : World) (fa ba : Addr) (vf vb : Value) : Prop where
  size : w.heap.size ≤ w'.heap.size
  keep : ∀ b, b < w.heap.size → b ≠ fa.block → b ≠ ba.block → w'.heap[b]? = w.heap[b]?
  f : w'.heap[fa.block]? = (w.setCell fa vf).heap[fa.block]?
  b : w'.heap[ba.block]? = (w.setCell ba vb).heap[ba.block]?
  tape : w'.tape = w.tape
  os : w'.os = w.os
  out : w'.output = w.output
theorem setCell_get (w : World) (a : Addr) (v : Value) (k : Nat) : (w.setCell a v).heap[k]? = if k = a.block then (w.heap[k]?).map (fun | .cells c el fr => .cells (if a.spot.isSome then c else c.setIfInBounds a.off v) el fr | o => o) else w.heap[k]? := by
  simp only [World.setCell, Array.getElem?_modify]
  by_cases h : k = a.block
  · subst h
    simp only [if_true]
    cases w.heap[a.block]? with
    | none => rfl
    | some o => cases o <;> rfl
  · rw [if_neg h, if_neg (fun e => h e.symm)]
theorem setCell_twice {w w' : World} {a : Addr} {u v : Value} (h : w'.heap[a.block]? = (w.setCell a u).heap[a.block]?) : (w'.setCell a v).heap[a.block]? = (w.setCell a v).heap[a.block]? := by
  rw [setCell_get, if_pos rfl, h, setCell_get, if_pos rfl, setCell_get, if_pos rfl]
  cases w.heap[a.block]? with
  | none => rfl
  | some o =>
    cases o <;> simp
    split <;> simp
theorem setCell_same {w : World} {a : Addr} {v : Value} (h : w.cell? a = some v) : (w.setCell a v).heap[a.block]? = w.heap[a.block]? := by
  rw [setCell_get, if_pos rfl]
  unfold World.cell? at h
  split at h
  · rename_i c e f hb
    rw [hb]
    simp only [Option.map_some, Option.some.injEq, Obj.cells.injEq, and_self, and_true]
    split
    · rfl
    · rename_i hs
      split at h
      · rename_i hs2; simp at hs hs2; rw [hs] at hs2; cases hs2
      · rename_i hs2
        apply Array.ext_getElem?
        intro i
        rw [Array.getElem?_setIfInBounds]
        by_cases e : a.off = i
        · subst e; rw [if_pos rfl]; split <;> simp_all
        · rw [if_neg e]
  · cases h
def dueOf (e : MapEntry) : Int := match e.val with | .int _ n => n | _ => 0
def mn (o : Option Int) (n : Int) : Option Int := some (match o with | none => n | some b => if n < b then n else b)
theorem mn_comm (o : Option Int) (a b : Int) : mn (mn o a) b = mn (mn o b) a := by
  cases o <;> simp only [mn] <;> congr 1 <;> (repeat' split) <;> omega
def best (o : Option Int) (l : List MapEntry) : Option Int := l.foldl (fun o e => mn o (dueOf e)) o
theorem best_perm {l m : List MapEntry} (h : l.Perm m) (o : Option Int) : best o l = best o m := by
  unfold best
  exact h.foldl_eq' (fun x _ y _ z => mn_comm z _ _) o
def optOf (f : Bool) (b : Int) : Option Int := if f then some b else none
set_option maxRecDepth 100000 in
set_option maxHeartbeats 2000000 in
theorem see_in (w : World) (m : Nat) (es : Array MapEntry) (clock : Nat) (hm : w.heap[m]? = some (.map es clock)) (hB : Born es clock) (hnd : es.toList.Nodup) (fa ba : Addr) (hv : ∀ e ∈ es, ∃ k, e.val = .int .i64 k)
    (f0 : Bool) (b0 : Int) (hf : w.cell? fa = some (.bool f0)) (hb : w.cell? ba = some (.int .i64 b0)) (hzf : w.frozen? fa = false) (hzb : w.frozen? ba = false) (hne : fa.block ≠ ba.block) (hfl : fa.block < w.heap.size) (hbl : ba.block < w.heap.size) (hfm : m ≠ fa.block) (hbm : m ≠ ba.block) :
    CallsIn Fence.wide 0 Tryz.prog 310 #[.map (some m), .pointer (some fa), .pointer (some ba)] w fun e w' => (∃ v, e = .returned v ∧ v = .tuple #[]) ∧ ∃ f b, Two w w' fa ba (.bool f) (.int .i64 b) ∧ optOf f b = best (optOf f0 b0) es.toList ∧ (f = false → b = b0) := by
  have hms : m < w.heap.size := (Array.getElem?_eq_some_iff.1 hm).1
  have hne' : fa ≠ ba := fun h => hne (by rw [h])
  refine callsIn_of_wp Tryz.func310 rfl trivial ?_ rfl
  simp only [Tryz.ntmps310, List.size_toArray, List.length_cons, List.length_nil, Nat.reduceAdd, Nat.reduceSub, Array.replicate_succ, Array.replicate_zero, List.push_toArray, List.append_toArray, List.nil_append, List.cons_append]
  gi_wp2
  rw [range_run (P := Tryz.prog) (t := 246) (k := 3) (e := 3) (by kernel_rfl) hm]
  gi_wp2
  gi_loopw [] (fun wr => ∃ (ps rs : List MapEntry) (f : Bool) (b : Int), (ps ++ rs).Perm es.toList ∧ wr.heap[w.heap.size]? = some (.mapIter (some m) clock (ps.map (·.born)).toArray clock) ∧ wr.cell? fa = some (.bool f) ∧ wr.cell? ba = some (.int .i64 b) ∧ wr.frozen? fa = false ∧ wr.frozen? ba = false ∧ Two w wr fa ba (.bool f) (.int .i64 b) ∧ optOf f b = best (optOf f0 b0) ps ∧ (f = false → b = b0)) (fun wr => es.size - seenN wr w.heap.size)
  case atStart =>
    have hga := grew_alloc w (.mapIter (some m) clock #[] clock)
    refine ⟨[], es.toList, f0, b0, by simp, heap_alloc_new w _, ?_, ?_, ?_, ?_, ⟨hga.size, fun i h1 _ _ => hga.keep i h1, ?_, ?_, rfl, rfl, rfl⟩, rfl, fun _ => rfl⟩
    · rw [← hf]; simp only [World.cell?, hga.keep _ hfl]
    · rw [← hb]; simp only [World.cell?, hga.keep _ hbl]
    · rw [← hzf]; simp only [World.frozen?, hga.keep _ hfl]
    · rw [← hzb]; simp only [World.frozen?, hga.keep _ hbl]
    · rw [hga.keep _ hfl, setCell_same hf]
    · rw [hga.keep _ hbl, setCell_same hb]
  case round =>
    obtain ⟨ps, rs, f, b, hp, hit, hf1, hb1, hzf1, hzb1, htw, hopt, hb00⟩ := hrel
    have hm' : wr.heap[m]? = some (.map es clock) := by rw [htw.keep m hms hfm hbm]; exact hm
    have hmem : ∀ e, e ∈ es ↔ e ∈ ps ∨ e ∈ rs := fun e => by
      rw [← List.mem_append, hp.mem_iff]; simp
    have hnd2 : (ps ++ rs).Nodup := hp.nodup_iff.2 hnd
    gi_wp2
    rcases next_map (P := Tryz.prog) (t := 0) hit hm' hB with ⟨hall, hrun⟩ | ⟨e, he, hns, k, hrun⟩
    · rw [hrun]
      have hrs : rs = [] := by
        cases rs with
        | nil => rfl
        | cons x rs =>
          exfalso
          have hx := hall x ((hmem x).2 (.inr (by simp)))
          simp only [List.mem_toArray, List.mem_map] at hx
          obtain ⟨y, hy, hyb⟩ := hx
          have := hB.uniq y ((hmem y).2 (.inl hy)) x ((hmem x).2 (.inr (by simp))) hyb
          subst this
          exact (List.nodup_append.1 hnd2).2.2 _ hy _ (by simp) rfl
      subst hrs
      gi_wp2
      go_end0
      exact ⟨⟨_, rfl, rfl⟩, f, b, htw, by rw [hopt]; exact best_perm (by simpa using hp) _, hb00⟩
    · rw [hrun]
      have hrl : w.heap.size < wr.heap.size := (Array.getElem?_eq_some_iff.1 hit).1
      have hrs : e ∈ rs := by
        rcases (hmem e).1 he with h | h
        · exact absurd (by simpa using ⟨e, h, rfl⟩) hns
        · exact h
      obtain ⟨r1, r2, hr12⟩ := List.append_of_mem hrs
      subst hr12
      have hp2 : ((ps ++ [e]) ++ (r1 ++ r2)).Perm es.toList := by
        refine List.Perm.trans ?_ hp
        simp only [List.append_assoc]
        exact List.Perm.append_left _ (by simpa using List.perm_middle.symm)
      obtain ⟨kk, hev⟩ := hv e he
      have hdue : dueOf e = kk := by simp [dueOf, hev]
      have hbest : best (optOf f0 b0) (ps ++ [e]) = mn (optOf f b) kk := by
        simp only [best, List.foldl_append, List.foldl_cons, List.foldl_nil, hdue]
        rw [hopt]; rfl
      generalize hw2 : ({ wr with drawn := k, heap := wr.heap.setIfInBounds w.heap.size (.mapIter (some m) clock ((List.map (fun x => x.born) ps).toArray.push e.born) clock) } : World) = w2
      have hother : ∀ i, i ≠ w.heap.size → w2.heap[i]? = wr.heap[i]? := fun i hi => by rw [← hw2]; exact Array.getElem?_setIfInBounds_ne (fun h => hi h.symm)
      have hit2 : w2.heap[w.heap.size]? = some (.mapIter (some m) clock ((List.map (fun x => x.born) ps).toArray.push e.born) clock) := by
        rw [← hw2]; simp [hrl]
      have hm2 : w2.heap[m]? = some (.map es clock) := by rw [hother m (by omega)]; exact hm'
      have hf2 : w2.cell? fa = some (.bool f) := by rw [← hf1]; simp only [World.cell?, hother fa.block (by omega)]
      have hb2 : w2.cell? ba = some (.int .i64 b) := by rw [← hb1]; simp only [World.cell?, hother ba.block (by omega)]
      have hzf2 : w2.frozen? fa = false := by rw [← hzf1]; simp only [World.frozen?, hother fa.block (by omega)]
      have hzb2 : w2.frozen? ba = false := by rw [← hzb1]; simp only [World.frozen?, hother ba.block (by omega)]
      have htw2 : Two w w2 fa ba (.bool f) (.int .i64 b) := by
        refine ⟨by rw [← hw2]; simp; exact htw.size, fun i h1 h2 h3 => by rw [hother i (by omega)]; exact htw.keep i h1 h2 h3, by rw [hother _ (by omega)]; exact htw.f, by rw [hother _ (by omega)]; exact htw.b, ?_, ?_, ?_⟩
        · rw [← hw2]; exact htw.tape
        · rw [← hw2]; exact htw.os
        · rw [← hw2]; exact htw.out
      have hf3 : ∀ v, (w2.setCell ba v).cell? fa = some (.bool f) := fun v => by rw [World.cell?_setCell_other (h := fun h => hne' h.symm)]; exact hf2
      have hn1 : seenN wr w.heap.size = ps.length := by simp [seenN, hit]
      have hlen := hp2.length_eq
      simp only [List.length_append, List.length_cons, List.length_nil, Array.length_toList] at hlen
      have noWrite : f = true → ¬ (kk < b) → (∃ (ps rs : List MapEntry) (f : Bool) (b : Int), (ps ++ rs).Perm es.toList ∧ w2.heap[w.heap.size]? = some (.mapIter (some m) clock (ps.map (·.born)).toArray clock) ∧ w2.cell? fa = some (.bool f) ∧ w2.cell? ba = some (.int .i64 b) ∧ w2.frozen? fa = false ∧ w2.frozen? ba = false ∧ Two w w2 fa ba (.bool f) (.int .i64 b) ∧ optOf f b = best (optOf f0 b0) ps ∧ (f = false → b = b0)) ∧ es.size - seenN w2 w.heap.size < es.size - seenN wr w.heap.size := by
        intro hft hkb
        refine ⟨⟨ps ++ [e], r1 ++ r2, f, b, hp2, by rw [hit2]; simp, hf2, hb2, hzf2, hzb2, htw2, ?_, hb00⟩, ?_⟩
        · rw [hbest, hft]; simp [optOf, mn, hkb]
        · have hn2 : seenN w2 w.heap.size = ps.length + 1 := by simp [seenN, hit2]
          rw [hn1, hn2]; omega
      have write : (f = false ∨ kk < b) → (∃ (ps rs : List MapEntry) (f : Bool) (b : Int), (ps ++ rs).Perm es.toList ∧ ((w2.setCell ba (.int .i64 kk)).setCell fa (.bool true)).heap[w.heap.size]? = some (.mapIter (some m) clock (ps.map (·.born)).toArray clock) ∧ ((w2.setCell ba (.int .i64 kk)).setCell fa (.bool true)).cell? fa = some (.bool f) ∧ ((w2.setCell ba (.int .i64 kk)).setCell fa (.bool true)).cell? ba = some (.int .i64 b) ∧ ((w2.setCell ba (.int .i64 kk)).setCell fa (.bool true)).frozen? fa = false ∧ ((w2.setCell ba (.int .i64 kk)).setCell fa (.bool true)).frozen? ba = false ∧ Two w ((w2.setCell ba (.int .i64 kk)).setCell fa (.bool true)) fa ba (.bool f) (.int .i64 b) ∧ optOf f b = best (optOf f0 b0) ps ∧ (f = false → b = b0)) ∧ es.size - seenN ((w2.setCell ba (.int .i64 kk)).setCell fa (.bool true)) w.heap.size < es.size - seenN wr w.heap.size := by
        intro hor
        have hg : ∀ i, i ≠ fa.block → i ≠ ba.block → ((w2.setCell ba (.int .i64 kk)).setCell fa (.bool true)).heap[i]? = w2.heap[i]? := fun i h1 h2 => by
          rw [setCell_get, if_neg h1, setCell_get, if_neg h2]
        have hit3 := hg w.heap.size (by omega) (by omega)
        refine ⟨⟨ps ++ [e], r1 ++ r2, true, kk, hp2, by rw [hit3, hit2]; simp, World.cell?_setCell_same _ _ _ (hf3 _), ?_, by simpa using hzf2, by simpa using hzb2, ⟨?_, fun i h1 h2 h3 => by rw [hg i h2 h3]; exact htw2.keep i h1 h2 h3, ?_, ?_, htw2.tape, htw2.os, htw2.out⟩, ?_, fun h => by cases h⟩, ?_⟩
        · rw [World.cell?_setCell_other (h := hne')]; exact World.cell?_setCell_same _ _ _ hb2
        · simp only [World.size_setCell]; exact htw2.size
        · refine setCell_twice (u := .bool f) ?_
          rw [setCell_get, if_neg hne]; exact htw2.f
        · rw [setCell_get, if_neg (fun h => hne h.symm)]
          exact setCell_twice (u := .int .i64 b) htw2.b
        · rw [hbest]
          rcases hor with h | h
          · rw [h]; rfl
          · cases f
            · rfl
            · simp [optOf, mn, h]
        · have hn2 : seenN ((w2.setCell ba (.int .i64 kk)).setCell fa (.bool true)) w.heap.size = ps.length + 1 := by simp only [seenN]; rw [hit3, hit2]; simp
          rw [hn1, hn2]; omega
      cases f
      all_goals
        gi_wp2
        rw [entry_map (P := Tryz.prog) hit2 hm2 hB he rfl, hev]
        gi_wp2
      all_goals first
        | exact write (.inl rfl)
        | exact write (.inl trivial)
        | exact write trivial
        | exact write (.inr (by assumption))
        | exact write (by assumption)
        | exact write (by omega)
        | exact noWrite rfl (by omega)
        | exact noWrite trivial (by omega)
        | exact noWrite (by omega)
section
variable {ρ : Nat → Int} {R : Inj} {w : World} {h : T AObj}
theorem leastI_cons {k v : AV} {b : Nat} {l : List (AV × AV × Nat)} {o r : Option Int} (h : leastI ((k, v, b) :: l) o = some r) : ∃ n, v = .int .i64 n ∧ leastI l (mn o n) = some r := by
  cases v <;> cases o <;> (try (simp only [leastI] at h; done)) <;> (try (simp [leastI] at h; done))
  · rename_i kd n
    cases kd <;> (try (simp [leastI] at h; done))
    exact ⟨n, rfl, h⟩
  · rename_i kd n bb
    cases kd <;> (try (simp [leastI] at h; done))
    refine ⟨n, rfl, ?_⟩
    simp only [leastI, ilt_eq] at h
    simp only [mn]
    by_cases hlt : n < bb <;> simp [hlt] at h ⊢ <;> exact h
theorem leastI_spec : ∀ {l : List (AV × AV × Nat)} {m : List MapEntry} {o r : Option Int}, ERs ρ R l m → leastI l o = some r → r = best o m ∧ ∀ e ∈ m, ∃ k, e.val = .int .i64 k := by
  intro l
  induction l with
  | nil => intro m o r h hs; cases h; simp only [leastI, Option.some.injEq] at hs; subst hs; exact ⟨rfl, fun e he => by cases he⟩
  | cons x l ih =>
    intro m o r h hs
    cases h with
    | cons _ e _ m h hes =>
      cases h with
      | mk k v b ck cv hk hv =>
        have key : ∀ n o', v = .int .i64 n → leastI l o' = some r → o' = mn o n → r = best o ({ key := ck, val := cv, born := b } :: m) ∧ ∀ e ∈ ({ key := ck, val := cv, born := b } :: m : List MapEntry), ∃ k, e.val = .int .i64 k := by
          rintro n o' rfl h1 h2
          obtain ⟨h3, h4⟩ := ih hes h1
          cases hv
          refine ⟨by rw [h3, h2]; rfl, fun e he => ?_⟩
          rcases List.mem_cons.1 he with rfl | he
          · exact ⟨n, rfl⟩
          · exact h4 e he
        obtain ⟨n, h1, h2⟩ := leastI_cons hs
        exact key n _ h1 h2 rfl
set_option maxRecDepth 100000 in
set_option maxHeartbeats 2000000 in
theorem see_nil (w : World) (a b : Value) : CallsIn Fence.wide 0 Tryz.prog 310 #[.map none, a, b] w fun e w' => (∃ v, e = .returned v ∧ v = .tuple #[]) ∧ Grew w w' := by
  refine callsIn_of_wp Tryz.func310 rfl trivial ?_ rfl
  simp only [Tryz.ntmps310, List.size_toArray, List.length_cons, List.length_nil, Nat.reduceAdd, Nat.reduceSub, Array.replicate_succ, Array.replicate_zero, List.push_toArray, List.append_toArray, List.nil_append, List.cons_append]
  gi_wp2
  have hr : (Instr.range 246 (.map none)).run Tryz.prog w = .ok (.pointer (some ⟨w.heap.size, 0, none⟩)) (w.alloc (.mapIter none 0 #[] 0)) := by
    simp [Instr.range, run_und (P := Tryz.prog) (t := 246) (show Tryz.prog.underlying 246 = some (.map 3 3) by kernel_rfl)]
  rw [hr]
  gi_wp2
  gi_loopw [] (fun wr => wr = w.alloc (.mapIter none 0 #[] 0)) (fun wr => 0)
  case atStart => rfl
  case round =>
    subst hrel
    have hit : (w.alloc (.mapIter none 0 #[] 0)).heap[w.heap.size]? = some (.mapIter none 0 #[] 0) := heap_alloc_new w _
    have hn : (Instr.next (.pointer (some ⟨w.heap.size, 0, none⟩)) false 0).run Tryz.prog (w.alloc (.mapIter none 0 #[] 0)) = .ok (.tuple #[.bool false]) (w.alloc (.mapIter none 0 #[] 0)) := by
      have h1 : (getObj w.heap.size).run Tryz.prog (w.alloc (.mapIter none 0 #[] 0)) = .ok (.mapIter none 0 #[] 0) (w.alloc (.mapIter none 0 #[] 0)) := run_getObj' hit (by intros; simp)
      unfold Instr.next
      simp only [Sem.run_bind, h1, Result.andThen_ok, Sem.run_pure]
    gi_wp2
    go_end0
    exact ⟨⟨_, rfl, rfl⟩, grew_alloc w _⟩
theorem cellsOf_some {id : Nat} {e : Option Nat} {cs : T AV} {fz : Nat} (h1 : cellsOf h id = some (e, cs, fz)) : h.get id = some (.cells e cs fz) := by
  unfold cellsOf at h1
  split at h1
  · rename_i hg; simp only [Option.some.injEq, Prod.mk.injEq] at h1; obtain ⟨rfl, rfl, rfl⟩ := h1; exact hg
  · cases h1
theorem OR.isCells {P : Program} {e : Option Nat} {cs : T AV} {fz : Nat} {l : Loc} {x : Obj} (h : OR P ρ R (.cells e cs fz) l x) : ∃ c el fr, x = .cells c el fr ∧ CellsR ρ R e cs fz l c el fr := by
  cases h with | cells _ _ _ _ c el fr h => exact ⟨c, el, fr, rfl, h⟩
theorem VR.isPtr {id off : Nat} {v : Value} (h : VR ρ R (.ptr id off) v) : ∃ l, v = .pointer (some ⟨l.b, l.base + off, none⟩) ∧ R id = some l := by
  cases h with | ptr _ _ l hR => exact ⟨l, rfl, hR⟩
theorem cells_facts {P : Program} {id off : Nat} {e : Option Nat} {cs : T AV} {v : AV} (iv : Inv P ρ R h w) (hg : h.get id = some (.cells e cs 0)) {l : Loc} (hR : R id = some l) (hv : cs.get off = some v) :
    ∃ c el fr cv, w.heap[l.b]? = some (.cells c el fr) ∧ CellsR ρ R e cs 0 l c el fr ∧ c[l.base + off]? = some cv ∧ VR ρ R v cv ∧ w.cell? ⟨l.b, l.base + off, none⟩ = some cv ∧ w.frozen? ⟨l.b, l.base + off, none⟩ = false := by
  obtain ⟨x, hx, ho⟩ := iv.at hg hR
  obtain ⟨c, el, fr, rfl, hc⟩ := ho.isCells
  obtain ⟨cv, h1, h2⟩ := hc.rel off v hv
  refine ⟨c, el, fr, cv, hx, hc, h1, h2, by simp [World.cell?, hx, h1], ?_⟩
  rw [frozen_of hx]
  have := hc.free (l.base + off) (by omega) ((Array.getElem?_eq_some_iff.1 h1).1)
  cases h3 : (decide (fr.1 ≤ l.base + off) && decide (l.base + off < fr.2)) with
  | false => rfl
  | true => simp only [Bool.and_eq_true, decide_eq_true_eq] at h3; exact absurd h3 this
theorem CellsR.set1 {e : Option Nat} {cs : T AV} {l : Loc} {c : Array Value} {el : TypeId} {fr : Nat × Nat} (r : CellsR ρ R e cs 0 l c el fr) {v : AV} {cv : Value} (hv : VR ρ R v cv) {off : Nat} (hs : l.base + off < c.size) :
    CellsR ρ R e (cs.set off v) 0 l (c.setIfInBounds (l.base + off) cv) el fr :=
  r.write (vs := [v]) (cvs := [cv]) (.cons _ _ _ _ hv .nil) (by simp; omega) (fun i => by
    rw [T.get_set]
    by_cases h : i = off
    · subst h; simp
    · rw [if_neg h, if_neg (by simp; omega)])
set_option maxRecDepth 100000 in
theorem ovSee_ok : OvOK Tryz.prog ρ 310 ovSee := by
  have key : ∀ args st v st', ovSee args st = .ok (v, st') → v = undef ∧ ((∃ a b, args = [.nilmap, a, b] ∧ st' = st) ∨
      ∃ id fi fo bi bo es clock e1 c1 e2 c2 found best r, args = [.map id, .ptr fi fo, .ptr bi bo] ∧ st.heap.get id = some (.map es clock) ∧ incr clock 0 es = true ∧ fi ≠ bi ∧
        st.heap.get fi = some (.cells e1 c1 0) ∧ st.heap.get bi = some (.cells e2 c2 0) ∧ c1.get fo = some (.bool found) ∧ c2.get bo = some (.int .i64 best) ∧ leastI es (optOf found best) = some r ∧
        ((r = none ∧ st' = st) ∨ ∃ n, r = some n ∧ st' = (st.put fi (.cells e1 (c1.set fo (.bool true)) 0)).put bi (.cells e2 (c2.set bo (.int .i64 n)) 0))) := by
    intro args st v st' h
    unfold ovSee at h
    split at h
    · obtain ⟨rfl, rfl⟩ := ok_inj h
      exact ⟨rfl, .inl ⟨_, _, rfl, rfl⟩⟩
    · rename_i id fi fo bi bo
      split at h
      · rename_i es clock hg
        split at h
        · rename_i e1 c1 e2 c2 hi h1 h2
          split at h
          · rename_i found best hf hb
            simp only [Bool.and_eq_true, Bool.not_eq_true'] at hi
            split at h
            · rename_i n hl
              simp only [St.putK_eq] at h
              obtain ⟨rfl, rfl⟩ := ok_inj h
              exact ⟨rfl, .inr ⟨id, fi, fo, bi, bo, es, clock, e1, c1, e2, c2, found, best, _, rfl, hg, hi.1, beq_false' hi.2, cellsOf_some h1, cellsOf_some h2, hf, hb, by cases found <;> exact hl, .inr ⟨n, rfl, rfl⟩⟩⟩
            · rename_i hl
              obtain ⟨rfl, rfl⟩ := ok_inj h
              exact ⟨rfl, .inr ⟨id, fi, fo, bi, bo, es, clock, e1, c1, e2, c2, found, best, _, rfl, hg, hi.1, beq_false' hi.2, cellsOf_some h1, cellsOf_some h2, hf, hb, by cases found <;> exact hl, .inl ⟨rfl, rfl⟩⟩⟩
            · cases h
          · cases h
        · cases h
      · cases h
    · cases h
  refine ⟨fun args st v st' h => ?_, fun args st v st' h R w cargs hv gl iv hfr hcd => ?_⟩
  · obtain ⟨_, ⟨_, _, _, rfl⟩ | ⟨_, _, _, _, _, _, _, _, _, _, _, _, _, _, _, _, _, _, _, _, _, _, _, ⟨_, rfl⟩ | ⟨_, _, rfl⟩⟩⟩ := key _ _ _ _ h
    · exact Mono.refl _
    · exact Mono.refl _
    · exact (Mono.put _ _ _).trans (Mono.put _ _ _)
  · obtain ⟨rfl, hk⟩ := key _ _ _ _ h
    rw [run_enter Tryz.func310 (by kernel_rfl) rfl cargs w]
    simp only [Upon]
    have triple : ∀ {a b c : AV} {l : List Value}, VRs ρ R [a, b, c] l → ∃ x y z, l = [x, y, z] ∧ VR ρ R a x ∧ VR ρ R b y ∧ VR ρ R c z := by
      intro a b c l h
      cases h with | cons _ v _ m h hs => obtain ⟨y, z, rfl, h1, h2⟩ := hs.pair; exact ⟨v, y, z, rfl, h, h1, h2⟩
    rcases hk with ⟨a, b, rfl, rfl⟩ | ⟨id, fi, fo, bi, bo, es, clock, e1, c1, e2, c2, found, bst, r, rfl, hg, hi, hfb, hgf, hgb, hcf, hcb, hl, hk⟩
    · obtain ⟨x, y, z, hc, h1, h2, h3⟩ := triple hv
      have hx : x = .map none := by cases h1; rfl
      rw [arr_eq hc, hx]
      refine (see_nil w y z).mono ?_
      rintro e w' ⟨⟨v, rfl, rfl⟩, hgr⟩
      exact ⟨_, rfl, R, VR.undef, hgr.step iv.inv _ _⟩
    · obtain ⟨x, y, z, hc, h1, h2, h3⟩ := triple hv
      obtain ⟨lm, rfl, hRm⟩ := h1.isMap
      obtain ⟨lf, rfl, hRf⟩ := h2.isPtr
      obtain ⟨lb, rfl, hRb⟩ := h3.isPtr
      obtain ⟨xm, hxm, hom⟩ := iv.inv.at hg hRm
      obtain ⟨ces, rfl, hes⟩ := hom.isMap
      obtain ⟨hB, hnd⟩ := incr_Born hi hes
      obtain ⟨hr, hint⟩ := leastI_spec hes hl
      obtain ⟨cf, elf, frf, cvf, hxf, hcrf, hgetf, hvf, hcellf, hzf⟩ := cells_facts iv.inv hgf hRf hcf
      obtain ⟨cb, elb, frb, cvb, hxb, hcrb, hgetb, hvb, hcellb, hzb⟩ := cells_facts iv.inv hgb hRb hcb
      have ef : cvf = .bool found := by cases hvf; rfl
      have eb : cvb = .int .i64 bst := by cases hvb; rfl
      subst ef; subst eb
      have hne : lf.b ≠ lb.b := fun h => hfb (iv.inv.inj fi bi _ _ lf lb hgf hgb hRf hRb h)
      have hfm : lm.b ≠ lf.b := fun h => by
        have := iv.inv.inj id fi _ _ lm lf hg hgf hRm hRf h
        subst this; rw [hg] at hgf; cases hgf
      have hbm : lm.b ≠ lb.b := fun h => by
        have := iv.inv.inj id bi _ _ lm lb hg hgb hRm hRb h
        subst this; rw [hg] at hgb; cases hgb
      have hfl : lf.b < w.heap.size := (Array.getElem?_eq_some_iff.1 hxf).1
      have hbl : lb.b < w.heap.size := (Array.getElem?_eq_some_iff.1 hxb).1
      have hcall := see_in w lm.b ces clock hxm hB hnd ⟨lf.b, lf.base + fo, none⟩ ⟨lb.b, lb.base + bo, none⟩ (fun e he => hint e (by simpa using he)) found bst hcellf hcellb hzf hzb hne hfl hbl hfm hbm
      rw [arr_eq hc]
      refine hcall.mono ?_
      rintro e w' ⟨⟨v, rfl, rfl⟩, f, b, htw, hopt, hb0⟩
      rw [← hr] at hopt
      have hwf := htw.f
      have hwb := htw.b
      rw [setCell_get, if_pos rfl] at hwf hwb
      simp only [hxf, hxb, Option.map_some, Option.isSome_none, Bool.false_eq_true, if_false] at hwf hwb
      rcases hk with ⟨rfl, rfl⟩ | ⟨n, rfl, rfl⟩
      ·
        have hff : f = false := by cases f <;> simp [optOf] at hopt ⊢
        have hf0 : found = false := by
          cases found with
          | false => rfl
          | true =>
            exfalso
            have : ∀ (l : List MapEntry) (x : Int), best (some x) l ≠ none := by
              intro l
              induction l with
              | nil => intro x h; simp [best] at h
              | cons e l ih => intro x; exact ih _
            exact this ces.toList bst hr.symm
        have hbb := hb0 hff
        subst hff; subst hf0; subst hbb
        have same : ∀ {c : Array Value} {i : Nat} {v : Value}, c[i]? = some v → c.setIfInBounds i v = c := by
          intro c i v hcv
          apply Array.ext_getElem?
          intro j
          rw [Array.getElem?_setIfInBounds]
          by_cases e : i = j
          · subst e; rw [if_pos rfl, if_pos (Array.getElem?_eq_some_iff.1 hcv).1, hcv]
          · rw [if_neg e]
        rw [same hgetf] at hwf
        rw [same hgetb] at hwb
        have hgr : Grew w w' := ⟨htw.size, fun i hi => by
          by_cases h1 : i = lf.b
          · subst h1; rw [hwf, hxf]
          · by_cases h2 : i = lb.b
            · subst h2; rw [hwb, hxb]
            · exact htw.keep i hi h1 h2, htw.tape, htw.os, htw.out⟩
        exact ⟨_, rfl, R, VR.undef, hgr.step iv.inv _ _⟩
      · have hft : f = true ∧ b = n := by cases f <;> simp [optOf] at hopt ⊢; exact hopt
        obtain ⟨rfl, rfl⟩ := hft
        have s1 : Step Tryz.prog ρ R st.heap w R (st.heap.set fi (.cells e1 (c1.set fo (.bool true)) 0)) { w with heap := w.heap.setIfInBounds lf.b (.cells (cf.setIfInBounds (lf.base + fo) (.bool true)) elf frf) } (lowered st.low fi) st.next st.next :=
          Step.write iv.inv hgf hRf (.cells _ _ _ _ _ _ _ (hcrf.set1 (.bool true) (Array.getElem?_eq_some_iff.1 hgetf).1)) (lowered_le _ _).2
        have hgb' : (st.heap.set fi (.cells e1 (c1.set fo (.bool true)) 0)).get bi = some (.cells e2 c2 0) := by rw [T.get_set, if_neg (fun h => hfb h.symm)]; exact hgb
        have s2 : Step Tryz.prog ρ R (st.heap.set fi (.cells e1 (c1.set fo (.bool true)) 0)) { w with heap := w.heap.setIfInBounds lf.b (.cells (cf.setIfInBounds (lf.base + fo) (.bool true)) elf frf) } R ((st.heap.set fi (.cells e1 (c1.set fo (.bool true)) 0)).set bi (.cells e2 (c2.set bo (.int .i64 b)) 0))
            { w with heap := (w.heap.setIfInBounds lf.b (.cells (cf.setIfInBounds (lf.base + fo) (.bool true)) elf frf)).setIfInBounds lb.b (.cells (cb.setIfInBounds (lb.base + bo) (.int .i64 b)) elb frb) } (lowered (lowered st.low fi) bi) st.next st.next :=
          Step.write s1.inv hgb' hRb (.cells _ _ _ _ _ _ _ (hcrb.set1 (.int .i64 b) (Array.getElem?_eq_some_iff.1 hgetb).1)) (lowered_le _ _).2
        have s12 := s1.trans s2 (lowered_le _ _).1 (Nat.le_refl _) (Nat.le_refl _)
        have hgr : Grew { w with heap := (w.heap.setIfInBounds lf.b (.cells (cf.setIfInBounds (lf.base + fo) (.bool true)) elf frf)).setIfInBounds lb.b (.cells (cb.setIfInBounds (lb.base + bo) (.int .i64 b)) elb frb) } w' := by
          refine ⟨by simp; exact htw.size, fun i hi => ?_, htw.tape, htw.os, htw.out⟩
          simp only [Array.size_setIfInBounds] at hi
          by_cases h2 : i = lb.b
          · subst h2; rw [hwb]; simp [hbl]
          · rw [Array.getElem?_setIfInBounds_ne (fun h => h2 h.symm)]
            by_cases h1 : i = lf.b
            · subst h1; rw [hwf]; simp [hfl]
            · rw [Array.getElem?_setIfInBounds_ne (fun h => h1 h.symm)]
              exact htw.keep i hi h1 h2
        exact ⟨_, rfl, R, VR.undef, s12.trans (hgr.step s12.inv _ _) (Nat.le_refl _) (Nat.le_refl _) (Nat.le_refl _)⟩
end
end Go.Ab
