/- A part of the proof: AbKTop0, AbKTop1, AbKTop2, AbKTop3. -/
import Derived.ControlIn
import Derived.Test.YtkejpghmemnhfaaGreatDoorNAZ
import Derived.Test.YtkejpghmemnhfaaGreatDoorNBA
import Derived.Test.YtkejpghmemnhfaaGreatDoorNBB
import Derived.Test.YtkejpghmemnhfaaGreatDoorNBC
import Derived.Test.YtkejpghmemnhfaaGreatDoorNBD
import Derived.Test.YtkejpghmemnhfaaGreatDoorNBE
import Derived.Test.YtkejpghmemnhfaaGreatDoorNBF
import Derived.Test.YtkejpghmemnhfaaGreatDoorNBG
import Derived.Test.YtkejpghmemnhfaaGreatDoorNBH
import Derived.Test.YtkejpghmemnhfaaGreatDoorNBI
import Derived.Calls

set_option linter.unusedVariables false
set_option linter.unusedSimpArgs false

namespace Go.Ab.TF
open Go.Ab Go.Proofs
noncomputable def kb : Code := Tryz.f4.body.getD .skip
noncomputable def kA : Code := kfst kb
noncomputable def kB : Code := kfst (ksnd kb)
noncomputable def kC : Code := kfst (ksnd (ksnd kb))
noncomputable def kD : Code := kfst (ksnd (ksnd (ksnd kb)))
noncomputable def kE : Code := kfst (ksnd (ksnd (ksnd (ksnd kb))))
noncomputable def kF : Code := kfst (ksnd (ksnd (ksnd (ksnd (ksnd kb)))))
noncomputable def kG : Code := kfst (ksnd (ksnd (ksnd (ksnd (ksnd (ksnd kb))))))
noncomputable def kH : Code := kfst (ksnd (ksnd (ksnd (ksnd (ksnd (ksnd (ksnd kb)))))))
noncomputable def kS : Code := ksnd (ksnd (ksnd (ksnd (ksnd (ksnd (ksnd (ksnd kb)))))))
noncomputable def kT : Code := kfst (kfst kS)
noncomputable def kL : Code := kinn (kinn (ksnd (kfst kS)))
noncomputable def kZ : Code := ksnd kS
theorem body_eq : Tryz.f4.body = some (.seq kA (.seq kB (.seq kC (.seq kD (.seq kE (.seq kF (.seq kG (.seq kH (.seq (.seq kT (.block 0 (.loop kL))) kZ))))))))) := by kernel_rfl
theorem ccA : Go.Ab.kC (cCode Tryz.prog Lit.e4 120 kA) = cA := by kernel_rfl
theorem ccB : Go.Ab.kC (cCode Tryz.prog Lit.e4 120 kB) = cB := by kernel_rfl
theorem ccC : Go.Ab.kC (cCode Tryz.prog Lit.e4 120 kC) = cC := by kernel_rfl
theorem ccD : Go.Ab.kC (cCode Tryz.prog Lit.e4 120 kD) = cD := by kernel_rfl
theorem ccE : Go.Ab.kC (cCode Tryz.prog Lit.e4 120 kE) = cE := by kernel_rfl
theorem ccF : Go.Ab.kC (cCode Tryz.prog Lit.e4 120 kF) = cF := by kernel_rfl
theorem ccG : Go.Ab.kC (cCode Tryz.prog Lit.e4 120 kG) = cG := by kernel_rfl
theorem ccH : Go.Ab.kC (cCode Tryz.prog Lit.e4 120 kH) = cH := by kernel_rfl
theorem ccT : Go.Ab.kC (cCode Tryz.prog Lit.e4 120 kT) = cT := by kernel_rfl
theorem ccL : Go.Ab.kC (cCode Tryz.prog Lit.e4 120 kL) = cL := by kernel_rfl
theorem ccZ : Go.Ab.kC (cCode Tryz.prog Lit.e4 120 kZ) = cZ := by kernel_rfl
def costs : List Int := [0, 62, 124, 186, 248, 310, 372, 434, 496, 558, 621, 684, 747, 810, 873, 936, 999, 1062, 1125, 1188, 1251, 1314, 1377, 1440, 1503]
def cost (t : Nat) : Int := costs.getD t 0
def nS (t : Nat) : Nat := ([112, 116, 119, 122, 125, 128, 131, 134, 137, 140, 143, 146, 149, 152, 155, 158, 161, 164, 167, 170, 173, 176, 179, 182, 185] : List Nat).getD t 0
noncomputable def hS (t : Nat) : T AObj := [h0,h1,h2,h3,h4,h5,h6,h7,h8,h9,h10,h11,h12,h13,h14,h15,h16,h17,h18,h19,h20,h21,h22,h23,h24].getD t .leaf
noncomputable def tmS (t : Nat) : T AV := [tm0,tm1,tm2,tm3,tm4,tm5,tm6,tm7,tm8,tm9,tm10,tm11,tm12,tm13,tm14,tm15,tm16,tm17,tm18,tm19,tm20,tm21,tm22,tm23,tm24].getD t .leaf
def rho (n r i t : Int) : Nat → Int
  | 0 => n
  | 1 => r
  | 2 => i
  | 3 => t
  | _ => 0
theorem rho_id (n r i : Int) : reρ [.var 0, .var 1, .var 2] (rho n r i 0) = rho n r i 0 := by
  funext j
  match j with
  | 0 => rfl
  | 1 => rfl
  | 2 => rfl
  | 3 => rfl
  | j + 4 => rfl
theorem rho_zero (n r i : Int) : reρ [.var 0, .var 1, .lit 0] (rho n r i 0) = rho n r 0 0 := by
  funext j
  match j with
  | 0 => rfl
  | 1 => rfl
  | 2 => rfl
  | 3 => rfl
  | j + 4 => rfl
theorem rho_next (n r i : Int) (h0 : 0 ≤ i) (h1 : i < 100) : reρ [.var 0, .var 1, .bin .add .i64 (.var 2) (.lit (.ofNat 1))] (rho n r i 0) = rho n r (i + 1) 0 := by
  funext j
  match j with
  | 0 => rfl
  | 1 => rfl
  | 2 =>
    show (binI .add .i64 i 1).getD 0 = i + 1
    simp only [binI, Option.getD_some]
    rw [IntKind.wrap_i64]; omega
  | 3 => rfl
  | j + 4 => rfl
theorem rho_over (n r i : Int) (t : Nat) : reρ [.var 0, .var 1, .var 2, .lit (.ofNat t)] (rho n r i 0) = rho n r i t := by
  funext j
  match j with
  | 0 => rfl
  | 1 => rfl
  | 2 => rfl
  | 3 => rfl
  | j + 4 => rfl
theorem rho_id3 (n r i t : Int) : reρ [.var 0, .var 1, .var 2, .var 3] (rho n r i t) = rho n r i t := by
  funext j
  match j with
  | 0 => rfl
  | 1 => rfl
  | 2 => rfl
  | 3 => rfl
  | j + 4 => rfl
def σn : List SE := [.var 0, .var 1, .bin .add .i64 (.var 2) (.lit (.ofNat 1))]
theorem fits (t : Nat) (ht : t < 24) : ∃ μ, pieceK (condOK (cost (t + 1)) 1048576) μ σn (nS (t + 1)) (hS (t + 1)) (tmS (t + 1)) .normal (kev tu 100000 cL (frT (tmS t)) ⟨hS t, nS t, 100, [true, false, false, false, false, false, false], []⟩) = true := by
  match t, ht with
  | 0, _ => exact ⟨_, fits0⟩
  | 1, _ => exact ⟨_, fits1⟩
  | 2, _ => exact ⟨_, fits2⟩
  | 3, _ => exact ⟨_, fits3⟩
  | 4, _ => exact ⟨_, fits4⟩
  | 5, _ => exact ⟨_, fits5⟩
  | 6, _ => exact ⟨_, fits6⟩
  | 7, _ => exact ⟨_, fits7⟩
  | 8, _ => exact ⟨_, fits8⟩
  | 9, _ => exact ⟨_, fits9⟩
  | 10, _ => exact ⟨_, fits10⟩
  | 11, _ => exact ⟨_, fits11⟩
  | 12, _ => exact ⟨_, fits12⟩
  | 13, _ => exact ⟨_, fits13⟩
  | 14, _ => exact ⟨_, fits14⟩
  | 15, _ => exact ⟨_, fits15⟩
  | 16, _ => exact ⟨_, fits16⟩
  | 17, _ => exact ⟨_, fits17⟩
  | 18, _ => exact ⟨_, fits18⟩
  | 19, _ => exact ⟨_, fits19⟩
  | 20, _ => exact ⟨_, fits20⟩
  | 21, _ => exact ⟨_, fits21⟩
  | 22, _ => exact ⟨_, fits22⟩
  | 23, _ => exact ⟨_, fits23⟩
  | t + 24, h => exact absurd h (by omega)
theorem full (t : Nat) (ht : t < 24) : ∃ μ sc, pieceK (condOK (max 1 (cost t)) (cost (t + 1) - 1)) μ σn (nS t) (hS t) (tmS t) .normal (kev tu 100000 cL (frT (tmS t)) ⟨hS t, nS t, 100, sc, []⟩) = true := by
  match t, ht with
  | 0, _ => exact ⟨_, _, full0⟩
  | 1, _ => exact ⟨_, _, full1⟩
  | 2, _ => exact ⟨_, _, full2⟩
  | 3, _ => exact ⟨_, _, full3⟩
  | 4, _ => exact ⟨_, _, full4⟩
  | 5, _ => exact ⟨_, _, full5⟩
  | 6, _ => exact ⟨_, _, full6⟩
  | 7, _ => exact ⟨_, _, full7⟩
  | 8, _ => exact ⟨_, _, full8⟩
  | 9, _ => exact ⟨_, _, full9⟩
  | 10, _ => exact ⟨_, _, full10⟩
  | 11, _ => exact ⟨_, _, full11⟩
  | 12, _ => exact ⟨_, _, full12⟩
  | 13, _ => exact ⟨_, _, full13⟩
  | 14, _ => exact ⟨_, _, full14⟩
  | 15, _ => exact ⟨_, _, full15⟩
  | 16, _ => exact ⟨_, _, full16⟩
  | 17, _ => exact ⟨_, _, full17⟩
  | 18, _ => exact ⟨_, _, full18⟩
  | 19, _ => exact ⟨_, _, full19⟩
  | 20, _ => exact ⟨_, _, full20⟩
  | 21, _ => exact ⟨_, _, full21⟩
  | 22, _ => exact ⟨_, _, full22⟩
  | 23, _ => exact ⟨_, _, full23⟩
  | t + 24, h => exact absurd h (by omega)
theorem over (t : Nat) (ht : t < 25) : pieceK (condL [(.cmp .lss (.var 2) (.var 0), false)]) [] [.var 0, .var 1, .var 2, .lit (.ofNat t)] 100 .leaf tmO (.exit 0) (kev tu 100000 cL (frT (tmS t)) ⟨hS t, nS t, 100, [false], []⟩) = true := by
  match t, ht with
  | 0, _ => exact over0
  | 1, _ => exact over1
  | 2, _ => exact over2
  | 3, _ => exact over3
  | 4, _ => exact over4
  | 5, _ => exact over5
  | 6, _ => exact over6
  | 7, _ => exact over7
  | 8, _ => exact over8
  | 9, _ => exact over9
  | 10, _ => exact over10
  | 11, _ => exact over11
  | 12, _ => exact over12
  | 13, _ => exact over13
  | 14, _ => exact over14
  | 15, _ => exact over15
  | 16, _ => exact over16
  | 17, _ => exact over17
  | 18, _ => exact over18
  | 19, _ => exact over19
  | 20, _ => exact over20
  | 21, _ => exact over21
  | 22, _ => exact over22
  | 23, _ => exact over23
  | 24, _ => exact over24
  | t + 25, h => exact absurd h (by omega)
theorem cost_mono (t : Nat) (ht : t < 24) : cost t ≤ cost (t + 1) ∧ 1 ≤ cost (t + 1) ∧ cost (t + 1) ≤ 1503 ∧ 0 ≤ cost t := by
  match t, ht with
  | 0, _ => decide
  | 1, _ => decide
  | 2, _ => decide
  | 3, _ => decide
  | 4, _ => decide
  | 5, _ => decide
  | 6, _ => decide
  | 7, _ => decide
  | 8, _ => decide
  | 9, _ => decide
  | 10, _ => decide
  | 11, _ => decide
  | 12, _ => decide
  | 13, _ => decide
  | 14, _ => decide
  | 15, _ => decide
  | 16, _ => decide
  | 17, _ => decide
  | 18, _ => decide
  | 19, _ => decide
  | 20, _ => decide
  | 21, _ => decide
  | 22, _ => decide
  | 23, _ => decide
  | t + 24, h => exact absurd h (by omega)
end Go.Ab.TF

namespace Go.Ab.TF
open Go.Ab Go.Proofs
section
variable {n room : Int} {w0 : World}
abbrev AtT (n room i t : Int) (w0 : World) (R : Inj) (h : T AObj) (k : Nat) (tm : T AV) (a : Act) (w : World) : Prop := At Tryz.prog (rho n room i t) Lit.e4 120 w0 R h k tm a w
theorem condsR (h0 : 0 ≤ n) (h1 : n ≤ 40) (h2 : 1 ≤ room) (h3 : room ≤ 1048576) (i t : Int) (s : SB) (b : Bool) (h : condR s b = true) : s.eval (rho n room i t) = b := condR_sound (ρ := rho n room i t) h0 h1 h2 h3 s b h
theorem pieceR {fuel : Nat} {μ : Mv} {k k' : Nat} {h h' : T AObj} {tm tm' : T AV} {sc : List Bool} {c : Code} {cc : KC} (h0 : 0 ≤ n) (h1 : n ≤ 40) (h2 : 1 ≤ room) (h3 : room ≤ 1048576) (hcc : Go.Ab.kC (cCode Tryz.prog Lit.e4 120 c) = cc)
    (hchk : pieceK condR μ [.var 0, .var 1, .var 2] k' h' tm' .normal (kev tu fuel cc (frT tm) ⟨h, k, 100, sc, []⟩) = true) {i : Int} {R : Inj} {a : Act} {w : World} (A : AtT n room i 0 w0 R h k tm a w) {Q : Exit → Act → World → Prop} {y : Code}
    (hQ : ∀ a' w' R', AtT n room i 0 w0 R' h' k' tm' a' w' → y.wpIn Fence.wide 0 Tryz.prog Q a' w') : (Code.seq c y).wpIn Fence.wide 0 Tryz.prog Q a w := by
  refine wpIn_seq ?_
  refine At.pieceU (by decide) hcc hchk A (condsR h0 h1 h2 h3 i 0) ?_
  intro a' w' R' A'
  rw [rho_id] at A'
  exact hQ a' w' R' A'
def Fin (w0 : World) (Q : Exit → Act → World → Prop) : Prop := ∀ a w, a.defers = [] → a.tmps.getD 4 Go.undef = .bool true → Grew w0 w → Q .ret a w
theorem at_true {i t : Int} {R : Inj} {h : T AObj} {k : Nat} {tm : T AV} {a : Act} {w : World} (A : AtT n room i t w0 R h k tm a w) (hb : tm.get 4 = some (.bool true)) (hE : Lit.e4.get 4 = none) : a.tmps.getD 4 Go.undef = .bool true := by
  have := A.tr.rel 4 hE
  rw [evA_t, hb] at this
  simp only [Option.getD_some] at this
  generalize a.tmps.getD 4 Go.undef = v at this
  cases this; rfl
theorem e4_4 : Lit.e4.get 4 = none := by kernel_rfl
theorem outs {l : List (SB × Bool)} {sc : List Bool} {fuel : Nat} (hchk : pieceK (condL l) [] [.var 0, .var 1, .var 2] 100 .leaf tmR .ret (kev tu fuel cC (frT tmB) ⟨hB, 100, 100, sc, []⟩) = true) (hl : ∀ p ∈ l, p.1.eval (rho n room 0 0) = p.2)
    {R : Inj} {a : Act} {w : World} (A : AtT n room 0 0 w0 R hB 100 tmB a w) {Q : Exit → Act → World → Prop} (hQ : Fin w0 Q) (y : Code) : (Code.seq kC y).wpIn Fence.wide 0 Tryz.prog Q a w := by
  refine wpIn_seq ?_
  refine At.pieceU (by decide) ccC hchk A (fun s b h => condL_sound hl s b h) ?_
  intro a' w' R' A'
  rw [rho_id] at A'
  exact hQ a' w' A'.defers (at_true A' (by kernel_rfl) e4_4) A'.grew
theorem behind {i : Int} {t : Nat} {R : Inj} {a : Act} {w : World} (A : AtT n room i t w0 R .leaf 100 tmO a w) (hend : (t : Int) = n ∨ t = 24 ∨ room < 65536) {Q : Exit → Act → World → Prop} (hQ : Fin w0 Q) : kZ.wpIn Fence.wide 0 Tryz.prog Q a w := by
  by_cases h1 : (t : Int) = n
  · refine At.pieceU (by decide) ccZ end0 A (fun s b h => condL_sound (fun p hp => ?_) s b h) ?_
    · simp only [List.mem_cons, List.not_mem_nil, or_false] at hp
      subst hp
      show (cmpI .eql (t : Int) n).getD false = true
      simp [cmpI, cEq, ieq_eq, h1]
    · intro a' w' R' A'
      rw [rho_id3] at A'
      exact hQ a' w' A'.defers (at_true A' (by kernel_rfl) e4_4) A'.grew
  · have c1 : (cmpI .eql (t : Int) n).getD false = false := by simp [cmpI, cEq, ieq_eq, h1]
    by_cases h2 : t = 24
    · refine At.pieceU (by decide) ccZ end1 A (fun s b h => condL_sound (fun p hp => ?_) s b h) ?_
      · simp only [List.mem_cons, List.not_mem_nil, or_false] at hp
        rcases hp with rfl | rfl
        · exact c1
        · show (cmpI .eql (t : Int) 24).getD false = true
          subst h2; rfl
      · intro a' w' R' A'
        rw [rho_id3] at A'
        exact hQ a' w' A'.defers (at_true A' (by kernel_rfl) e4_4) A'.grew
    · have h3 : room < 65536 := by
        rcases hend with h | h | h
        · exact absurd h h1
        · exact absurd h h2
        · exact h
      refine At.pieceU (by decide) ccZ end2 A (fun s b h => condL_sound (fun p hp => ?_) s b h) ?_
      · simp only [List.mem_cons, List.not_mem_nil, or_false] at hp
        rcases hp with rfl | rfl
        · exact c1
        · show (cmpI .eql (t : Int) 24).getD false = false
          simp only [cmpI, cEq, ieq_eq, Option.getD_some, decide_eq_false_iff_not]
          omega
      · intro a' w' R' A'
        rw [rho_id3] at A'
        refine hQ a' w' A'.defers ?_ A'.grew
        have := A'.tr.rel 4 e4_4
        rw [evA_t] at this
        have hg : ∀ tm : T AV, tm.get 4 = some (.sbool (.cmp .lss (.var 1) (.lit (.ofNat 65536)))) → VR (rho n room i t) R' ((tm.get 4).getD .any) (a'.tmps.getD 4 Go.undef) → a'.tmps.getD 4 Go.undef = .bool true := by
          intro tm e hv
          rw [e] at hv
          simp only [Option.getD_some] at hv
          generalize a'.tmps.getD 4 Go.undef = v at hv
          cases hv with
          | sbool _ b hb =>
            have : (cmpI .lss room 65536).getD false = b := hb
            simp only [cmpI, cLt, ilt_eq, Option.getD_some, h3, decide_true] at this
            rw [this]
        exact hg _ (by kernel_rfl) this
end
end Go.Ab.TF

namespace Go.Ab.TF
open Go.Ab Go.Proofs
section
variable {n room : Int} {w0 : World}
def Head (n room : Int) (w0 : World) (m : Nat) (a : Act) (w : World) : Prop :=
  ∃ (t : Nat) (i : Int) (R : Inj), t ≤ 24 ∧ 0 ≤ i ∧ i ≤ n ∧ m = (n - i).toNat ∧ cost t ≤ room ∧ (i = t ∨ t = 24 ∨ room < 65536) ∧ AtT n room i 0 w0 R (hS t) (nS t) (tmS t) a w
theorem cost_zero : cost 0 = 0 := rfl
theorem full24' : ∃ μ sc, pieceK (condOK (max 1 (cost 24)) 1048576) μ σn (nS 24) (hS 24) (tmS 24) .normal (kev tu 100000 cL (frT (tmS 24)) ⟨hS 24, nS 24, 100, sc, []⟩) = true := ⟨_, _, full24⟩
theorem head_round (h1 : n ≤ 40) (h2 : 1 ≤ room) (h3 : room ≤ 1048576) {Q : Exit → Act → World → Prop} (hQ : ∀ t a w R i, ((t : Nat) : Int) = n ∨ t = 24 ∨ room < 65536 → AtT n room i t w0 R .leaf 100 tmO a w → Q (.exit 0) a w) (m : Nat) (a : Act) (w : World) (hH : Head n room w0 m a w) :
    kL.wpIn Fence.wide 0 Tryz.prog (Exit.then (fun a' w' => ∃ m', m' < m ∧ Head n room w0 m' a' w') Q) a w := by
  obtain ⟨t, i, R, ht, hi0, hin, hm, hcost, hor, A⟩ := hH
  by_cases hlt : i < n
  ·
    have next : ∀ {lo hi : Int} {μ : Mv} {sc : List Bool} {t' : Nat}, 1 ≤ lo → hi ≤ 1048576 → lo ≤ room → room ≤ hi → t' ≤ 24 → cost t' ≤ room → (i + 1 = t' ∨ t' = 24 ∨ room < 65536) →
        pieceK (condOK lo hi) μ σn (nS t') (hS t') (tmS t') .normal (kev tu 100000 cL (frT (tmS t)) ⟨hS t, nS t, 100, sc, []⟩) = true →
        kL.wpIn Fence.wide 0 Tryz.prog (Exit.then (fun a' w' => ∃ m', m' < m ∧ Head n room w0 m' a' w') Q) a w := by
      intro lo hi μ sc t' hlo hhi hl hh ht' hc' hor' hchk
      refine At.pieceU (by decide) ccL hchk A (fun s b h => condOK_sound (ρ := rho n room i 0) hlt hl hh hlo hhi s b h) ?_
      intro a' w' R' A'
      have e : reρ σn (rho n room i 0) = rho n room (i + 1) 0 := rho_next n room i hi0 (by omega)
      rw [e] at A'
      exact ⟨(n - (i + 1)).toNat, by omega, t', i + 1, R', ht', by omega, by omega, rfl, hc', hor', A'⟩
    by_cases h24 : t = 24
    · subst h24
      obtain ⟨μ, sc, hchk⟩ := full24'
      exact next (by omega) (Int.le_refl _) (by omega) h3 (Nat.le_refl _) hcost (.inr (.inl rfl)) hchk
    · have ht24 : t < 24 := by omega
      obtain ⟨c1, c2, c3, c4⟩ := cost_mono t ht24
      by_cases hfit : cost (t + 1) ≤ room
      · obtain ⟨μ, hchk⟩ := fits t ht24
        refine next c2 (Int.le_refl _) hfit h3 (by omega) hfit ?_ hchk
        rcases hor with h | h | h
        · exact .inl (by omega)
        · exact absurd h h24
        · exact .inr (.inr h)
      · obtain ⟨μ, sc, hchk⟩ := full t ht24
        exact next (by omega) (by omega) (by omega) (by omega) ht hcost (.inr (.inr (by omega))) hchk
  ·
    have hi : i = n := by omega
    subst hi
    refine At.pieceU (by decide) ccL (over t (by omega)) A (fun s b h => condL_sound (fun p hp => ?_) s b h) ?_
    · simp only [List.mem_cons, List.not_mem_nil, or_false] at hp
      subst hp
      show (cmpI .lss i i).getD false = false
      simp [cmpI, cLt, ilt_eq]
    · intro a' w' R' A'
      rw [rho_over] at A'
      refine hQ t a' w' R' i ?_ A'
      rcases hor with h | h | h
      · exact .inl h.symm
      · exact .inr (.inl h)
      · exact .inr (.inr h)
theorem whole {R : Inj} {a : Act} {Q : Exit → Act → World → Prop} (hQ : Fin w0 Q) (A : AtT n room 0 0 w0 R hI 100 tmI a w0) :
    (Code.seq kA (.seq kB (.seq kC (.seq kD (.seq kE (.seq kF (.seq kG (.seq kH (.seq (.seq kT (.block 0 (.loop kL))) kZ))))))))).wpIn Fence.wide 0 Tryz.prog Q a w0 := by
  have free : ∀ {μ : Mv} {k k' : Nat} {h h' : T AObj} {tm tm' : T AV} {c : Code} {cc : KC} {y : Code} {R : Inj} {a : Act} {w : World}, Go.Ab.kC (cCode Tryz.prog Lit.e4 120 c) = cc →
      pieceK (condL []) μ [.var 0, .var 1, .var 2] k' h' tm' .normal (kev tu 100000 cc (frT tm) ⟨h, k, 100, [], []⟩) = true → AtT n room 0 0 w0 R h k tm a w →
      (∀ a' w' R', AtT n room 0 0 w0 R' h' k' tm' a' w' → y.wpIn Fence.wide 0 Tryz.prog Q a' w') → (Code.seq c y).wpIn Fence.wide 0 Tryz.prog Q a w := by
    intro μ k k' h h' tm tm' c cc y R a w hcc hchk A hy
    refine wpIn_seq ?_
    refine At.pieceU (by decide) hcc hchk A (fun s b h => by cases h) ?_
    intro a' w' R' A'
    rw [rho_id] at A'
    exact hy a' w' R' A'
  refine free ccA okA A ?_
  intro a w R A
  refine free ccB okB A ?_
  intro a w R A
  by_cases h0 : n < 0
  · refine outs out0 (fun p hp => ?_) A hQ _
    simp only [List.mem_cons, List.not_mem_nil, or_false] at hp
    subst hp
    show (cmpI .lss n 0).getD false = true
    simp [cmpI, cLt, ilt_eq, h0]
  · have c0 : (cmpI .lss n 0).getD false = false := by simp [cmpI, cLt, ilt_eq, h0]
    by_cases h1 : 40 < n
    · refine outs out1 (fun p hp => ?_) A hQ _
      simp only [List.mem_cons, List.not_mem_nil, or_false] at hp
      rcases hp with rfl | rfl
      · exact c0
      · show (cmpI .gtr n 40).getD false = true
        simp [cmpI, cGt, ilt_eq, h1]
    · have c1 : (cmpI .gtr n 40).getD false = false := by simp [cmpI, cGt, ilt_eq, h1]
      by_cases h2 : room < 1
      · refine outs out2 (fun p hp => ?_) A hQ _
        simp only [List.mem_cons, List.not_mem_nil, or_false] at hp
        rcases hp with rfl | rfl | rfl
        · exact c0
        · exact c1
        · show (cmpI .lss room 1).getD false = true
          simp [cmpI, cLt, ilt_eq, h2]
      · have c2 : (cmpI .lss room 1).getD false = false := by simp [cmpI, cLt, ilt_eq, h2]
        by_cases h3 : 1048576 < room
        · refine outs out3 (fun p hp => ?_) A hQ _
          simp only [List.mem_cons, List.not_mem_nil, or_false] at hp
          rcases hp with rfl | rfl | rfl | rfl
          · exact c0
          · exact c1
          · exact c2
          · show (cmpI .gtr room 1048576).getD false = true
            simp [cmpI, cGt, ilt_eq, h3]
        · have b0 : 0 ≤ n := by omega
          have b1 : n ≤ 40 := by omega
          have b2 : 1 ≤ room := by omega
          have b3 : room ≤ 1048576 := by omega
          refine pieceR b0 b1 b2 b3 ccC okC A ?_
          intro a w R A
          refine pieceR b0 b1 b2 b3 ccD okD A ?_
          intro a w R A
          refine pieceR b0 b1 b2 b3 ccE okE A ?_
          intro a w R A
          refine pieceR b0 b1 b2 b3 ccF okF A ?_
          intro a w R A
          refine pieceR b0 b1 b2 b3 ccG okG A ?_
          intro a w R A
          refine pieceR b0 b1 b2 b3 ccH okH A ?_
          intro a w R A
          refine wpIn_seq ?_
          refine wpIn_seq ?_
          refine At.pieceU (by decide) ccT okT A (condsR b0 b1 b2 b3 0 0) ?_
          intro a w R A
          rw [rho_zero] at A
          refine wpIn_block ?_
          refine wpIn_loop_n (Head n room w0) (head_round b1 b2 b3 ?_) (m := n.toNat) ⟨0, 0, R, by omega, by omega, b0, by simp, by rw [cost_zero]; omega, .inl rfl, A⟩
          intro t a w R i hend A
          exact behind A hend hQ
end
end Go.Ab.TF

namespace Go.Ab.TF
open Go.Ab Go.Proofs
def pows : List Int := [1, 10, 100, 1000, 10000, 100000, 1000000, 10000000, 100000000, 1000000000, 10000000000, 100000000000, 1000000000000, 10000000000000, 100000000000000, 1000000000000000, 10000000000000000, 100000000000000000, 1000000000000000000, 10000000000000000000]
noncomputable def powT : T AV := T.leaf.ofList 0 (pows.map fun n => .int .u64 n)
theorem hI_eq : hI = T.leaf.set 0 (.cells none powT 20) := by kernel_rfl
theorem tmI_eq : tmI = T.leaf.ofList 0 [.sint .i64 (.var 0), .sint .i64 (.var 1)] := by kernel_rfl
section
variable {n room : Int} {w0 : World}
noncomputable def R0 : Inj := fun id => if id = 0 then some ⟨0, 0, 20⟩ else if id < 100 then some ⟨id, 0, 0⟩ else none
theorem start (c : Array Value) (el : TypeId) (fr : Nat × Nat) (hx : w0.heap[0]? = some (.cells c el fr)) (hc : c.toList = pows.map fun n => Value.int .u64 n) :
    AtT n room 0 0 w0 R0 hI 100 tmI { tmps := #[.int .i64 n, .int .i64 room] ++ Array.replicate (120 - 2) Go.undef, defers := [] } w0 := by
  have hget : ∀ {id o}, hI.get id = some o → id = 0 ∧ o = .cells none powT 20 := by
    intro id o h
    rw [hI_eq, T.get_set] at h
    by_cases e : id = 0
    · rw [if_pos e] at h; cases h; exact ⟨e, rfl⟩
    · rw [if_neg e, T.get_leaf] at h; cases h
  have hsz : c.size = 20 := by
    have := congrArg List.length hc
    simpa [pows] using this
  refine ⟨?_, rfl, fun g hg => ?_, ⟨⟨fun id o ho => ?_, fun i j o o' l l' hi hj _ _ _ => ?_⟩, fun id hid => ?_⟩, fun n' id h1 _ => ?_, Grew.refl w0, fun id o l hid ho _ => ?_⟩
  · rw [tmI_eq]
    exact TR.start (cargs := #[.int .i64 n, .int .i64 room]) (.cons _ _ _ _ (.sint _ _ _ rfl) (.cons _ _ _ _ (.sint _ _ _ rfl) .nil)) (by decide)
  · by_cases e : g = 0
    · subst e; exact ⟨20, rfl⟩
    · exact ⟨0, by simp only [R0]; rw [if_neg e, if_pos hg]⟩
  · obtain ⟨rfl, rfl⟩ := hget ho
    refine ⟨⟨0, 0, 20⟩, _, rfl, hx, .cells _ _ _ _ _ _ _ ⟨fun _ h => (by cases h), by simpa using hsz, fun i v hv => ?_, fun i hi h2 => absurd h2 (by simp only [Nat.zero_add] at hi; omega)⟩⟩
    rw [powT, get_ofList_leaf, List.getElem?_map] at hv
    have h2 : c[i]? = (pows.map fun n => Value.int .u64 n)[i]? := by rw [← hc]; simp
    simp only [Nat.zero_add]
    rw [h2, List.getElem?_map]
    cases hp : pows[i]? with
    | none => rw [hp] at hv; cases hv
    | some x => rw [hp] at hv; cases hv; exact ⟨_, rfl, .int _ _⟩
  · rw [(hget hi).1, (hget hj).1]
  · cases h : hI.get id with
    | none => rfl
    | some o => have := (hget h).1; subst this; exact absurd hid (by decide)
  · simp only [R0]; rw [if_neg (by omega), if_neg (by omega)]
  · have := (hget ho).1; omega
theorem called (c : Array Value) (el : TypeId) (fr : Nat × Nat) (hx : w0.heap[0]? = some (.cells c el fr)) (hc : c.toList = pows.map fun n => Value.int .u64 n) :
    CallsIn Fence.wide 0 Tryz.prog 4 #[.int .i64 n, .int .i64 room] w0 fun e w' => e = .returned (.bool true) ∧ Grew w0 w' := by
  refine callsIn_of_wp Tryz.func4 body_eq trivial ?_ rfl
  refine whole ?_ (start c el fr hx hc)
  intro a w hd ht hg
  refine ⟨hd, .bool true, ?_, rfl, hg⟩
  rw [Array.getD_eq_getD_getElem?] at ht
  simp [results, ht]
end
end Go.Ab.TF
