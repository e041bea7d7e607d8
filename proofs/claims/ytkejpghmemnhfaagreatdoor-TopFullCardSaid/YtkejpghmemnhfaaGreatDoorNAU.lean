/- A part of the proof: AbG7. -/
import Derived.Test.YtkejpghmemnhfaaGreatDoorNAI
import Derived.Test.YtkejpghmemnhfaaGreatDoorNAT

set_option linter.unusedVariables false
set_option linter.unusedSimpArgs false

namespace Go.Ab
noncomputable def frT (tm : T AV) : Fr := frOf fun t => evA tm (.t t)
theorem frOf_cell (g : Nat → AV) {t : Nat} (ht : t < 256) : cell (frOf g) t = g t := by
  have e : t = 16 * (t / 16) + t % 16 := by omega
  have h1 : t / 16 < 16 := by omega
  have h2 : t % 16 < 16 := by omega
  rw [e]
  generalize t / 16 = i at h1
  generalize t % 16 = j at h2
  have c1 : i = 0 ∨ i = 1 ∨ i = 2 ∨ i = 3 ∨ i = 4 ∨ i = 5 ∨ i = 6 ∨ i = 7 ∨ i = 8 ∨ i = 9 ∨ i = 10 ∨ i = 11 ∨ i = 12 ∨ i = 13 ∨ i = 14 ∨ i = 15 := by omega
  have c2 : j = 0 ∨ j = 1 ∨ j = 2 ∨ j = 3 ∨ j = 4 ∨ j = 5 ∨ j = 6 ∨ j = 7 ∨ j = 8 ∨ j = 9 ∨ j = 10 ∨ j = 11 ∨ j = 12 ∨ j = 13 ∨ j = 14 ∨ j = 15 := by omega
  rcases c1 with rfl | rfl | rfl | rfl | rfl | rfl | rfl | rfl | rfl | rfl | rfl | rfl | rfl | rfl | rfl | rfl <;> rcases c2 with rfl | rfl | rfl | rfl | rfl | rfl | rfl | rfl | rfl | rfl | rfl | rfl | rfl | rfl | rfl | rfl <;> rfl
theorem frT_rel (tm : T AV) : Rel (frT tm) tm := fun t ht => frOf_cell _ ht
noncomputable def okS (g : AV → AV → Bool) (o : Option AV) (y : AV) : Bool := match o with
  | none => notAgg y
  | some x => g x y
noncomputable def okRow (q : AV → AV → Bool) (tm : T AV) (z : Nat) (r : N16 AV) : Bool := N16.rec (fun a b c d e f g h i j k l m n o p => okS q (tm.get (Nat.add z 0)) a && (okS q (tm.get (Nat.add z 1)) b && (okS q (tm.get (Nat.add z 2)) c && (okS q (tm.get (Nat.add z 3)) d && (okS q (tm.get (Nat.add z 4)) e && (okS q (tm.get (Nat.add z 5)) f && (okS q (tm.get (Nat.add z 6)) g && (okS q (tm.get (Nat.add z 7)) h && (okS q (tm.get (Nat.add z 8)) i && (okS q (tm.get (Nat.add z 9)) j && (okS q (tm.get (Nat.add z 10)) k && (okS q (tm.get (Nat.add z 11)) l && (okS q (tm.get (Nat.add z 12)) m && (okS q (tm.get (Nat.add z 13)) n && (okS q (tm.get (Nat.add z 14)) o && (okS q (tm.get (Nat.add z 15)) p)))))))))))))))) r
noncomputable def okFr (q : AV → AV → Bool) (tm : T AV) (f : Fr) : Bool := N16.rec (fun a b c d e f g h i j k l m n o p => okRow q tm 0 a && (okRow q tm 16 b && (okRow q tm 32 c && (okRow q tm 48 d && (okRow q tm 64 e && (okRow q tm 80 f && (okRow q tm 96 g && (okRow q tm 112 h && (okRow q tm 128 i && (okRow q tm 144 j && (okRow q tm 160 k && (okRow q tm 176 l && (okRow q tm 192 m && (okRow q tm 208 n && (okRow q tm 224 o && (okRow q tm 240 p)))))))))))))))) f
theorem okRow_get {q : AV → AV → Bool} {tm : T AV} {z : Nat} {r : N16 AV} (h : okRow q tm z r = true) {j : Nat} (hj : j < 16) : okS q (tm.get (z + j)) (r.at j) = true := by
  cases r
  simp only [okRow, Bool.and_eq_true] at h
  obtain ⟨h0, h1, h2, h3, h4, h5, h6, h7, h8, h9, h10, h11, h12, h13, h14, h15⟩ := h
  have c : j = 0 ∨ j = 1 ∨ j = 2 ∨ j = 3 ∨ j = 4 ∨ j = 5 ∨ j = 6 ∨ j = 7 ∨ j = 8 ∨ j = 9 ∨ j = 10 ∨ j = 11 ∨ j = 12 ∨ j = 13 ∨ j = 14 ∨ j = 15 := by omega
  rcases c with rfl | rfl | rfl | rfl | rfl | rfl | rfl | rfl | rfl | rfl | rfl | rfl | rfl | rfl | rfl | rfl
  · exact h0
  · exact h1
  · exact h2
  · exact h3
  · exact h4
  · exact h5
  · exact h6
  · exact h7
  · exact h8
  · exact h9
  · exact h10
  · exact h11
  · exact h12
  · exact h13
  · exact h14
  · exact h15
theorem okFr_get {q : AV → AV → Bool} {tm : T AV} {f : Fr} (h : okFr q tm f = true) {t : Nat} (ht : t < 256) : okS q (tm.get t) (cell f t) = true := by
  have e : 16 * (t / 16) + t % 16 = t := by omega
  have h2 : t % 16 < 16 := by omega
  have key : okRow q tm (16 * (t / 16)) (N16.at f (t / 16)) = true := by
    have hlt : t / 16 < 16 := by omega
    generalize t / 16 = i at hlt
    cases f
    simp only [okFr, Bool.and_eq_true] at h
    obtain ⟨h0, h1, h2, h3, h4, h5, h6, h7, h8, h9, h10, h11, h12, h13, h14, h15⟩ := h
    have c : i = 0 ∨ i = 1 ∨ i = 2 ∨ i = 3 ∨ i = 4 ∨ i = 5 ∨ i = 6 ∨ i = 7 ∨ i = 8 ∨ i = 9 ∨ i = 10 ∨ i = 11 ∨ i = 12 ∨ i = 13 ∨ i = 14 ∨ i = 15 := by omega
    rcases c with rfl | rfl | rfl | rfl | rfl | rfl | rfl | rfl | rfl | rfl | rfl | rfl | rfl | rfl | rfl | rfl
    · exact h0
    · exact h1
    · exact h2
    · exact h3
    · exact h4
    · exact h5
    · exact h6
    · exact h7
    · exact h8
    · exact h9
    · exact h10
    · exact h11
    · exact h12
    · exact h13
    · exact h14
    · exact h15
  have := okRow_get key h2
  rw [e] at this
  exact this
section
variable {P : Program} {ρ : Nat → Int} {R : Inj} {μ : Mv} {σ : List SE} {n n' : Nat} {w0 w : World} {h h' : T AObj} {tm tm' : T AV} {a : Act} {E : T Unit} {N : Nat}
theorem canonFr {fr : Fr} {tm1 : T AV} {tmps : Array Value} (hk : okFr (okV μ σ n 20) tm' fr = true) (hb : below 256 tm' 0 1 = true) (hr : Rel fr tm1) (hN : N ≤ 256) (t : TR ρ R E N tm1 tmps) : TR (reρ σ ρ) (reR μ n R) E N tm' tmps := by
  refine ⟨t.size, fun i hi => ?_⟩
  by_cases hlt : i < 256
  · have h1 := okFr_get hk hlt
    have h2 := t.rel i hi
    rw [hr i hlt] at h1
    simp only [evA]
    cases hg : tm'.get i with
    | none =>
      rw [hg] at h1
      exact .any _ (notAgg_one h1 h2)
    | some x =>
      rw [hg] at h1
      exact okV_VR 20 x _ h1 _ h2
  · have hg : tm'.get i = none := by
      cases hg : tm'.get i with
      | none => rfl
      | some x => have := below_get hb hg; omega
    simp only [evA, hg]
    rw [Array.getD_eq_getD_getElem?, Array.getElem?_eq_none (by have := t.size; omega)]
    exact .any _ rfl
noncomputable def pieceK (f : SB → Bool → Bool) (μ : Mv) (σ : List SE) (n : Nat) (h : T AObj) (tm : T AV) (ex : Ex) (r : KRes) : Bool := match r with
  | .ok ex' fr' st' => (ex == ex') && (condsOK f st'.tr && (Nat.ble 100 st'.low && (canonOK μ σ n h st'.heap && (below 256 tm 0 1 && okFr (okV μ σ n 20) tm fr'))))
  | .bad => false
theorem At.pieceK {tb : Tbl} {G : Env} (T1 : TOK tb G) (OK : ∀ ρ, EnvOK P ρ G) {f : SB → Bool → Bool} {fuel : Nat} {sc : List Bool} {ex : Ex} {c : Code} {kc : KC} (hN : N ≤ 256) (hcc : kC (cCode P E N c) = kc)
    (hchk : Ab.pieceK f μ σ n' h' tm' ex (kev tb fuel kc (frT tm) ⟨h, n, 100, sc, []⟩) = true) (A : At P ρ E N w0 R h n tm a w) (hcond : ∀ s b, f s b = true → s.eval ρ = b) {Q : Exit → Act → World → Prop}
    (hQ : ∀ a' w' R', At P (reρ σ ρ) E N w0 R' h' n' tm' a' w' → Q (exOf ex) a' w') : c.wpIn Fence.wide 0 P Q a w := by
  generalize hk : kev tb fuel kc (frT tm) ⟨h, n, 100, sc, []⟩ = kr at hchk
  cases kr with
  | bad => cases hchk
  | ok ex' fr st1 =>
  simp only [Ab.pieceK, Bool.and_eq_true, beq_iff_eq] at hchk
  obtain ⟨rfl, hc1, hlow, hcan, hbl, htm⟩ := hchk
  have hlow := ble_true hlow
  subst hcc
  obtain ⟨tm1, hev, hrel⟩ := kev_ev T1 (frT_rel tm) hk
  have iv : InvW P ρ R ⟨h, n, 100, sc, []⟩ w := ⟨A.inv.inv, A.inv.wf⟩
  refine (code_sound (OK ρ) fuel).1 E N none c tm [] ⟨h, n, 100, sc, []⟩ ex tm1 [] st1 hev R a w A.tr (by rw [A.defers]; exact .nil) A.glob iv (A.fresh _) (fun p hp => hcond _ _ (condsOK_mem hc1 p hp)) Q ?_
  intro a' w' R' ht hm hs
  have hd : a'.defers = [] := by generalize a'.defers = ds at hm; cases hm; rfl
  have hext : Ext R R' := hs.mono (A.fresh _)
  have gl' : Glob R' := A.glob.mono hext
  obtain ⟨hi, hg, hf, hab⟩ := canon (sc := []) (low := 100) (tr := []) hcan hs.inv gl'
  have chg : ∀ b, Chg R h st1.low w b → w0.heap.size ≤ b := by
    rintro b (hb | ⟨id, o, l, hid, ho, hl, rfl⟩)
    · exact Nat.le_trans A.grew.size hb
    · exact A.above id o l (by omega) ho hl
  have hgr : Grew w0 w' := ⟨Nat.le_trans A.grew.size hs.size, fun b hb => by
    rw [hs.keep b (fun c => by have := chg b c; omega)]; exact A.grew.keep b hb, hs.tape.trans A.grew.tape, hs.os.trans A.grew.os, hs.out.trans A.grew.out⟩
  refine hQ a' w' _ ⟨canonFr htm hbl hrel hN ht, hd, hg, hi, hf, hgr, fun id o' l hid hgo hl => ?_⟩
  obtain ⟨id', o, hid', ho, hl'⟩ := hab id o' l hid hgo hl
  rcases hs.news id' o l ho hl' with ⟨o0, h0, r0⟩ | c
  · exact A.above id' o0 l hid' h0 r0
  · exact chg _ c
end
end Go.Ab
