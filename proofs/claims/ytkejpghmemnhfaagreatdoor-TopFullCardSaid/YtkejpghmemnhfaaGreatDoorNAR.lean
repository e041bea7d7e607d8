/- A part of the proof: AbW5. -/
import Derived.TacticsInMore
import Derived.Test.YtkejpghmemnhfaaGreatDoorNAQ

set_option linter.unusedVariables false
set_option linter.unusedSimpArgs false

namespace Go.Ab
open Go.Proofs
theorem alloc4 (w : World) (A B C D : Obj) : Grew w ((((w.alloc A).alloc B).alloc C).alloc D) ∧ ((((w.alloc A).alloc B).alloc C).alloc D).heap[w.heap.size]? = some A ∧ ((((w.alloc A).alloc B).alloc C).alloc D).heap[w.heap.size + 1]? = some B ∧
    ((((w.alloc A).alloc B).alloc C).alloc D).heap[w.heap.size + 1 + 1]? = some C ∧ ((((w.alloc A).alloc B).alloc C).alloc D).heap[w.heap.size + 1 + 1 + 1]? = some D ∧ ((((w.alloc A).alloc B).alloc C).alloc D).heap.size = w.heap.size + 4 := by
  refine ⟨((((grew_alloc w A).trans (grew_alloc _ B)).trans (grew_alloc _ C)).trans (grew_alloc _ D)), ?_, ?_, ?_, ?_, ?_⟩ <;> simp only [World.alloc, Array.getElem?_push, Array.size_push] <;> (first | rfl | (repeat rw [if_neg (by omega)]) ; first | rfl | rw [if_pos rfl])
theorem setCell_size (w : World) (a : Addr) (v : Value) : (w.setCell a v).heap.size = w.heap.size := by simp [World.setCell]
set_option maxRecDepth 100000 in
set_option maxHeartbeats 2000000 in
theorem read_in (w : World) (b o : Nat) (raw tick all : Int) (c : Array Value) (el : TypeId) (fr : Nat × Nat) (hx : w.heap[b]? = some (.cells c el fr)) (g0 : c[o]? = some (.int .i64 tick)) (g3 : c[o + 3]? = some (.int .i64 all))
    (hfz : ∀ i, o ≤ i → i < c.size → ¬ (fr.1 ≤ i ∧ i < fr.2)) (hraw : tick ≤ raw) (hr2 : raw ≤ 1099511627776) :
    CallsIn Fence.wide 0 Tryz.prog 68 #[.pointer (some ⟨b, o, none⟩), .int .i64 raw] w fun e w' => e = .returned (.tuple #[.int .i64 raw, .int .i64 (IntKind.i64.wrap (raw - tick))]) ∧
      ∃ w2, w2.heap[b]? = some (.cells ((c.setIfInBounds (o + 3) (.int .i64 (RowKit.wrap64 (all + 1)))).setIfInBounds o (.int .i64 raw)) el fr) ∧ w2.heap.size = w.heap.size ∧ (∀ k, k ≠ b → w2.heap[k]? = w.heap[k]?) ∧ w2.tape = w.tape ∧ w2.os = w.os ∧ w2.output = w.output ∧ Grew w2 w' := by
  have hmf : ∀ (fn : Fn) (first cap : Array Value) (w : World), (Instr.makeFunc fn first cap).run Tryz.prog w = .ok (.func fn first cap) w := fun _ _ _ _ => rfl
  have hb : b < w.heap.size := (Array.getElem?_eq_some_iff.1 hx).1
  have h0 : w.cell? ⟨b, o, none⟩ = some (.int .i64 tick) := by simp [World.cell?, hx, g0]
  have h3 : w.cell? ⟨b, o + 3, none⟩ = some (.int .i64 all) := by simp [World.cell?, hx, g3]
  have zz : ∀ i, o ≤ i → i < c.size → w.frozen? ⟨b, i, none⟩ = false := by
    intro i h1 h2
    rw [frozen_of hx]
    have := hfz i h1 h2
    simpa using this
  have s0 : o < c.size := (Array.getElem?_eq_some_iff.1 g0).1
  have s3 : o + 3 < c.size := (Array.getElem?_eq_some_iff.1 g3).1
  have z0 := zz o (Nat.le_refl _) s0
  have z3 := zz (o + 3) (by omega) s3
  clear zz
  have hb1 : b < w.heap.size + 1 := by omega
  have hb2 : b < w.heap.size + 1 + 1 := by omega
  have hb3 : b < w.heap.size + 1 + 1 + 1 := by omega
  have hb4 : b < w.heap.size + 1 + 1 + 1 + 1 := by omega
  have hc : ∀ (W : World) (O : Obj) (i : Nat), b < W.heap.size → (W.alloc O).cell? ⟨b, i, none⟩ = W.cell? ⟨b, i, none⟩ := fun W O i h => World.cell?_alloc_lt (a := ⟨b, i, none⟩) (o := O) (w := W) h
  have hz : ∀ (W : World) (O : Obj) (i : Nat), b < W.heap.size → (W.alloc O).frozen? ⟨b, i, none⟩ = W.frozen? ⟨b, i, none⟩ := fun W O i h => World.frozen?_alloc_old (a := ⟨b, i, none⟩) (o := O) (w := W) (Nat.ne_of_lt h)
  have n0 : (b = w.heap.size) = False := by simp; omega
  have n1 : (b = w.heap.size + 1) = False := by simp; omega
  have n2 : (b = w.heap.size + 1 + 1) = False := by simp; omega
  have n3 : (b = w.heap.size + 1 + 1 + 1) = False := by simp; omega
  refine callsIn_of_wp_defers Tryz.func68 rfl trivial ?_
  simp only [Tryz.ntmps68, List.size_toArray, List.length_cons, List.length_nil, Nat.reduceAdd, Nat.reduceSub, Array.replicate_succ, Array.replicate_zero, List.push_toArray, List.append_toArray, List.nil_append, List.cons_append]
  gi_wp2
  refine leavesIn_cons (f := 131) (args := #[.pointer (some ⟨w.heap.size, 0, none⟩), .pointer (some ⟨w.heap.size + 1 + 1 + 1, 0, none⟩), .pointer (some ⟨w.heap.size + 1, 0, none⟩), .pointer (some ⟨w.heap.size + 1 + 1, 0, none⟩)]) (by simp) (fun h => by cases h) (by simp [go_sem]) (fun _ _ => trivial) ?_
  generalize hw2 : (w.setCell { block := b, off := o + 3 } (Value.int IntKind.i64 (RowKit.wrap64 (all + 1)))).setCell { block := b, off := o } (Value.int IntKind.i64 raw) = w2
  have hsz : w2.heap.size = w.heap.size := by rw [← hw2, setCell_size, setCell_size]
  have hx2 : w2.heap[b]? = some (.cells ((c.setIfInBounds (o + 3) (.int .i64 (RowKit.wrap64 (all + 1)))).setIfInBounds o (.int .i64 raw)) el fr) := by
    rw [← hw2, setCell_get, if_pos rfl, setCell_get, if_pos rfl, hx]; rfl
  have hk2 : ∀ k, k ≠ b → w2.heap[k]? = w.heap[k]? := by
    intro k hk
    rw [← hw2, setCell_get, if_neg hk, setCell_get, if_neg hk]
  obtain ⟨hg, ha, hb', hc', hd, hsz'⟩ := alloc4 w2 (.cells #[.pointer (some ⟨b, o, none⟩)] 92) (.cells #[.int .i64 0] 3) (.cells #[.int .i64 0] 3) (.cells #[.int .i64 tick] 3)
  generalize ((((w2.alloc (.cells #[.pointer (some ⟨b, o, none⟩)] 92)).alloc (.cells #[.int .i64 0] 3)).alloc (.cells #[.int .i64 0] 3)).alloc (.cells #[.int .i64 tick] 3)) = w3 at *
  rw [hsz] at ha hb' hc' hd hsz'
  have hbw3 : w3.heap[b]? = _ := (hg.keep b (by omega)).trans hx2
  refine (read1_in w3 b o w.heap.size (w.heap.size + 1 + 1 + 1) (w.heap.size + 1) (w.heap.size + 1 + 1) raw tick 0 0 _ el fr hbw3 (by simp [s0]) (by simpa using hfz) ⟨_, ha⟩ ⟨_, hd⟩ ⟨_, hb'⟩ ⟨_, hc'⟩ (by simp; omega) .returning).mono ?_
  rintro e u' w' ⟨rfl, ⟨v, rfl⟩, hc1, hc2, hsz4, hk4, t1, t2, t3⟩
  have hgr : Grew w2 w' := ⟨by omega, fun k hk => (hk4 k (by omega) (by omega) (by omega)).trans (hg.keep k hk), t1.trans hg.tape, t2.trans hg.os, t3.trans hg.out⟩
  refine ⟨.tuple #[.int .i64 raw, .int .i64 (IntKind.i64.wrap (raw - tick))], ?_, rfl, w2, hx2, hsz, hk2, ?_, ?_, ?_, hgr⟩
  · simp [settle, results, Tryz.results68, hc1, hc2, go_sem]
  · rw [← hw2]; rfl
  · rw [← hw2]; rfl
  · rw [← hw2]; rfl
end Go.Ab
