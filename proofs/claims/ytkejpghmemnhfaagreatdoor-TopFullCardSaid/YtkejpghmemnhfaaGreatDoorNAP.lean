/- A part of the proof: AbW3. -/
import Derived.Test.YtkejpghmemnhfaaGreatDoorNAN
import Derived.Test.YtkejpghmemnhfaaGreatDoorNAO

set_option linter.unusedVariables false
set_option linter.unusedSimpArgs false

namespace Go.Ab
open Go.Proofs Go.RowKit Go.Maps Go.Sort Go.Shelf
section
variable {ρ : Nat → Int} {R : Inj} {w : World} {h : T AObj}
theorem insN_perm (x : Nat) : ∀ l, (insN x l).Perm (x :: l) := by
  intro l
  induction l with
  | nil => exact .refl _
  | cons y l ih =>
    simp only [insN]
    split
    · exact (List.Perm.cons y ih).trans (List.Perm.swap x y l)
    · exact .refl _
theorem sortN_perm : ∀ l, (sortN l).Perm l := by
  intro l
  induction l with
  | nil => exact .refl _
  | cons x l ih => exact (insN_perm x _).trans (List.Perm.cons x ih)
theorem strictN_spec : ∀ {l : List Nat} {x : Nat}, strictN x l = true → (x :: l).Pairwise (· < ·) := by
  intro l
  induction l with
  | nil => intro x _; simp
  | cons y l ih =>
    intro x hs
    simp only [strictN] at hs
    split at hs
    · rename_i hb
      have hlt := blt_true hb
      have h1 := ih hs
      refine .cons (fun z hz => ?_) h1
      rcases List.mem_cons.1 hz with rfl | hz
      · exact hlt
      · exact Nat.lt_trans hlt ((List.pairwise_cons.1 h1).1 z hz)
    · cases hs
def i64 (n : Nat) : Value := .int .i64 (.ofNat n)
theorem natAVs_ok : ∀ l : List Nat, VRs ρ R (natAVs l) (l.map i64) := by
  intro l
  induction l with
  | nil => exact .nil
  | cons x l ih => exact .cons _ _ _ _ (.int _ _) ih
theorem intKeys_spec' : ∀ {l : List (AV × AV × Nat)} {m : List MapEntry} {ks : List Nat}, ERs ρ R l m → Ab.intKeys l = some ks → m.map (·.key) = ks.map i64 ∧ ∀ k ∈ ks, k < 9223372036854775808 := by
  intro l
  induction l with
  | nil => intro m ks h hs; cases h; simp only [Ab.intKeys, Option.some.injEq] at hs; subst hs; exact ⟨rfl, fun e he => by cases he⟩
  | cons x l ih =>
    intro m ks h hs
    cases h with
    | cons _ e _ m h hes =>
      cases h with
      | mk k v b ck cv hk hv =>
        unfold Ab.intKeys at hs
        split at hs
        · rename_i heq; cases heq
        · rename_i n _ _ _ heq
          simp only [List.cons.injEq, Prod.mk.injEq] at heq
          obtain ⟨⟨rfl, rfl, rfl⟩, rfl⟩ := heq
          split at hs
          · rename_i hb
            split at hs
            · rename_i r hr
              simp only [Option.some.injEq] at hs
              subst hs
              obtain ⟨h1, h2⟩ := ih hes hr
              cases hk
              refine ⟨by simp [h1, i64], fun k hk => ?_⟩
              rcases List.mem_cons.1 hk with rfl | hk
              · exact blt_true hb
              · exact h2 k hk
            · cases hs
          · cases hs
        · cases hs
def anyR (_ : Value) : Option (DataW Unit × List MemPlace) := some (.nil, [])
theorem rd_i64 {k : TypeId} (hk : Tryz.prog.underlying k = some (.int .i64)) {x : MapEntry} {n : Nat} (hx : x.key = i64 n) (hn : n < 9223372036854775808) : WideElems.rd Tryz.prog k anyR x = some (.int .i64 n, .nil) := by
  have : keyOf Tryz.prog k x.key = some (.int .i64 n) := by
    rw [hx]
    exact keyOf_int_mk hk (by simp [Lit.wf, IntKind.min, IntKind.max, IntKind.signed, IntKind.bits]; omega)
  simp [WideElems.rd, this, anyR]
theorem Step.found {P : Program} {w' : World} (g : Grew w w') (i : Inv P ρ R h w) {n : Nat} (hn : R n = none) {o : AObj} {x : Obj} {l : Loc} (hb : w.heap.size ≤ l.b) (hx : w'.heap[l.b]? = some x) (r : OR P ρ (R.upd n l) o l x) (low : Nat) :
    Step P ρ R h w (R.upd n l) (h.set n o) w' low n (n + 1) := by
  have hne : ∀ id o, h.get id = some o → id ≠ n := fun id o ho e => by
    obtain ⟨l, _, e', _⟩ := i.live id o ho
    rw [e, hn] at e'; cases e'
  refine ⟨⟨fun id o' ho => ?_, fun a b oa ob la lb ha hb' ra rb e => ?_⟩, fun id hid => Inj.upd_ne _ _ (fun c => hid ⟨by omega, by omega⟩), g.size, fun b hb' => g.keep b (Nat.lt_of_not_le fun c => hb' (.inl c)), fun id o' l' ho hr => ?_, g.tape, g.os, g.out, fun id h0 hid => by rw [T.get_set, if_neg (by omega)]; exact h0⟩
  · rw [T.get_set] at ho
    by_cases e : id = n
    · rw [if_pos e] at ho; injection ho with ho; subst ho; subst e
      exact ⟨l, x, Inj.upd_eq _ _ _, hx, r⟩
    · rw [if_neg e] at ho
      obtain ⟨l', x', e', hx', r'⟩ := i.live id o' ho
      refine ⟨l', x', by rw [Inj.upd_ne _ _ e]; exact e', ?_, r'.mono (Inj.upd_ext hn l)⟩
      rw [g.keep _ (Array.getElem?_eq_some_iff.1 hx').1]; exact hx'
  · rw [T.get_set] at ha hb'
    by_cases ea : a = n <;> by_cases eb : b = n
    · rw [ea, eb]
    · rw [if_neg eb] at hb'
      rw [ea, Inj.upd_eq] at ra; injection ra with ra; subst ra
      rw [Inj.upd_ne _ _ eb] at rb
      have := i.lt hb' rb
      omega
    · rw [if_neg ea] at ha
      rw [eb, Inj.upd_eq] at rb; injection rb with rb; subst rb
      rw [Inj.upd_ne _ _ ea] at ra
      have := i.lt ha ra
      omega
    · rw [if_neg ea] at ha; rw [if_neg eb] at hb'
      rw [Inj.upd_ne _ _ ea] at ra; rw [Inj.upd_ne _ _ eb] at rb
      exact i.inj a b oa ob la lb ha hb' ra rb e
  · rw [T.get_set] at ho
    by_cases e : id = n
    · rw [e, Inj.upd_eq] at hr; injection hr with hr; subst hr
      exact .inr (.inl hb)
    · rw [if_neg e] at ho; rw [Inj.upd_ne _ _ e] at hr
      exact .inl ⟨o', ho, hr⟩
theorem sorts (m : Nat) : AnyZI.SortsIn Tryz.prog Tryz.sortedA_ren Fence.wide m :=
  ⟨fun blk off cap ss W hH hblk hsz => callsIn_wide.2 (AnyM.slices_Sort_int Tryz.sortA blk off cap ss W hH hblk hsz),
   fun p cap W => callsIn_wide.2 (AnyM.slices_Sort_int_none Tryz.sortA p cap W)⟩
theorem sorted_call {ren : Ren} (L : SlLaysZI.n10 Tryz.prog ren) (g : Nat) (hg : ren.f 10 = g) (eg : ∀ args w, (callFunc g args).run Tryz.prog w = .ok (.enter g args) w) (Bm b nn : Nat) (D0 : DataW Unit) {R : Value → Option (DataW Unit × List MemPlace)} (w : World) (hB : Bm < w.heap.size)
    (hbox : w.cell? ⟨Bm, 0, none⟩ = some (.map (some b))) (hown : w.ownsMap Tryz.prog (ren.t 26) R b nn D0) (hmax : Maps.size D0 ≤ maxLen) (hbytes : Maps.size D0 * 8 ≤ 140737488355328) :
    CallsIn Fence.wide 0 Tryz.prog 52 #[.func (.func g) #[] #[.pointer (some ⟨Bm, 0, none⟩)]] w fun e w' => ∃ (v : Value) (ss : List Int), e = .returned v ∧ ss.Perm (Go.intKeys D0) ∧
      w'.ownsRow w.heap.size 3 1 v ss.length ((ss.mergeSort (fun x y => decide (x ≤ y))).map encZ) ∧ (v = .slice none 0 0 ↔ ss = []) ∧ Below w.heap.size w w' := by
  have hseq := AnyZI.keys_gives L Fence.wide 2 trivial rfl (by omega) Bm b nn D0 w hB hbox hown
  rw [hg] at hseq
  exact callsIn_wide.2 (callsIn_wide.1 (AnyZI.sorted_in Tryz.sortedA Fence.wide 5 trivial trivial trivial trivial rfl (by omega) (sorts _) (enters_of Tryz.func103 (by kernel_rfl) rfl) g #[.pointer (some ⟨Bm, 0, none⟩)] trivial eg _ _ hmax hbytes _ hseq))
theorem sorted_perm_eq {ss : List Int} {ks : List Nat} {x : Nat} {l : List Nat} (hp : ss.Perm (ks.map Int.ofNat)) (hs : sortN ks = x :: l) (hst : strictN x l = true) : ss.mergeSort (fun x y => decide (x ≤ y)) = (x :: l).map Int.ofNat := by
  have tr : ∀ a b c : Int, decide (a ≤ b) = true → decide (b ≤ c) = true → decide (a ≤ c) = true := fun a b c h1 h2 => by simp only [decide_eq_true_eq] at *; omega
  have to : ∀ a b : Int, (decide (a ≤ b) || decide (b ≤ a)) = true := fun a b => by simp only [Bool.or_eq_true, decide_eq_true_eq]; omega
  have h1 := List.pairwise_mergeSort (le := fun x y : Int => decide (x ≤ y)) tr to ss
  have h2 : ((x :: l).map Int.ofNat).Pairwise (fun a b => decide (a ≤ b) = true) := by
    rw [List.pairwise_map]
    exact (strictN_spec hst).imp fun {a b} h => by simp; omega
  refine List.Perm.eq_of_pairwise (le := fun a b : Int => decide (a ≤ b) = true) (fun a b _ _ h3 h4 => ?_) h1 h2 ?_
  · simp only [decide_eq_true_eq] at h3 h4; omega
  · refine (List.mergeSort_perm ss _).trans (hp.trans ?_)
    have := (sortN_perm ks).map Int.ofNat
    rw [hs] at this
    exact this.symm
theorem insert_perm' {H : Type} (x : Lit × DataW H) (l : List (Lit × DataW H)) : (DataW.insert x l).Perm (x :: l) := by
  induction l with
  | nil => exact .refl _
  | cons y l ih =>
    unfold DataW.insert
    split
    · exact .refl _
    · exact (List.Perm.cons y ih).trans (List.Perm.swap x y l)
theorem keys_map {α : Type} {g : MapEntry → α} {q : Nat → α} : ∀ {l : List MapEntry} {ks : List Nat}, l.map (·.key) = ks.map i64 → (∀ x ∈ l, ∀ n, x.key = i64 n → g x = q n) → l.map g = ks.map q := by
  intro l
  induction l with
  | nil => intro ks h _; cases ks with
    | nil => rfl
    | cons => simp at h
  | cons x l ih =>
    intro ks h hg
    cases ks with
    | nil => simp at h
    | cons n ks =>
      simp only [List.map_cons, List.cons.injEq] at h
      simp only [List.map_cons]
      rw [hg x (by simp) n h.1, ih h.2 fun y hy => hg y (by simp [hy])]
theorem foldr_insert_perm {H : Type} (l : List (Lit × DataW H)) : (l.foldr DataW.insert []).Perm l := by
  induction l with
  | nil => exact .refl _
  | cons x l ih => exact (insert_perm' x _).trans (List.Perm.cons x ih)
set_option maxRecDepth 100000 in
theorem ovSortedInt_ok {keys : List Nat} (hkeys : ∀ f, memN f keys = true → ∃ ren, SlLaysZI.n10 Tryz.prog ren ∧ ren.f 10 = f ∧ ren.t 26 = 3 ∧ ∀ args w, (callFunc f args).run Tryz.prog w = .ok (.enter f args) w) : OvOK Tryz.prog ρ 52 (ovSortedInt keys 3) := by
  have key : ∀ args st v st', ovSortedInt keys 3 args st = .ok (v, st') → ∃ f c e cs fz id es clock ks, args = [.func (.func f) [] [.ptr c 0]] ∧ memN f keys = true ∧ st.heap.get c = some (.cells (some e) cs fz) ∧ cs.get 0 = some (.map id) ∧ st.heap.get id = some (.map es clock) ∧ incr clock 0 es = true ∧ es.length ≤ 1048576 ∧ Ab.intKeys es = some ks ∧
      ((sortN ks = [] ∧ v = .nilslice ∧ st' = st) ∨ ∃ x l, sortN ks = x :: l ∧ strictN x l = true ∧ v = .slice st.next 0 (x :: l).length (x :: l).length false 1 ∧ st' = (st.new (.cells (some 3) (T.leaf.ofList 0 (natAVs (x :: l))) 0)).2) := by
    intro args st v st' h
    unfold ovSortedInt at h
    split at h
    · rename_i f c
      split at h
      · rename_i e cs fz hm hc
        split at h
        · rename_i id hg0
          split at h
          · rename_i es clock hg
            split at h
            · rename_i ks hi hk
              simp only [Bool.and_eq_true] at hi
              have hle := ble_true hi.2
              rw [lenL_eq] at hle
              refine ⟨f, c, e, cs, fz, id, es, clock, ks, rfl, hm, cellsOf_some hc, hg0, hg, hi.1, hle, hk, ?_⟩
              split at h
              · rename_i hs
                obtain ⟨rfl, rfl⟩ := ok_inj h
                exact .inl ⟨hs, rfl, rfl⟩
              · rename_i x l hs
                split at h
                · rename_i hst
                  simp only [T.ofListK_eq, St.newK_eq, forceN_eq, lenL_eq] at h
                  obtain ⟨rfl, rfl⟩ := ok_inj h
                  exact .inr ⟨x, l, hs, hst, rfl, rfl⟩
                · cases h
            · cases h
          · cases h
        · cases h
      · cases h
    · cases h
  refine ⟨fun args st v st' h => ?_, fun args st v st' h R w cargs hv gl iv hfr hcd => ?_⟩
  · obtain ⟨_, _, _, _, _, _, _, _, _, _, _, _, _, _, _, _, _, ⟨_, _, rfl⟩ | ⟨_, _, _, _, _, rfl⟩⟩ := key _ _ _ _ h
    · exact Mono.refl _
    · exact Mono.new _ _
  · obtain ⟨f, c, e, cs, fz, id, es, clock, ks, rfl, hmem, hgc, hg0, hg, hi, hle, hks, hk⟩ := key _ _ _ _ h
    obtain ⟨ren, L, hren, hrt, eg⟩ := hkeys f hmem
    obtain ⟨cv, hc, hr⟩ := hv.sing
    cases hr with
    | func _ _ _ fs cs2 hf1 hf2 =>
    have hfs : fs = #[] := by cases hl : fs.toList with
      | nil => simpa using hl
      | cons => rw [hl] at hf1; cases hf1
    obtain ⟨cp, hcp, hrp⟩ := hf2.sing
    obtain ⟨lc, rfl, hRc⟩ := hrp.isPtr
    have hcs2 : cs2 = #[.pointer (some ⟨lc.b, lc.base + 0, none⟩)] := arr_eq hcp
    subst hfs; subst hcs2
    obtain ⟨xo, hxo, hoo⟩ := iv.inv.at hgc hRc
    obtain ⟨cc, el, fr, rfl, hcr⟩ := hoo.isCells
    obtain ⟨_, hbase, _⟩ := hcr.elem e rfl
    obtain ⟨cm, hcm, hrm⟩ := hcr.rel 0 _ hg0
    obtain ⟨lm, rfl, hRm⟩ := hrm.isMap
    obtain ⟨xm, hxm, hom⟩ := iv.inv.at hg hRm
    obtain ⟨ces, rfl, hes⟩ := hom.isMap
    obtain ⟨hB, hnd⟩ := incr_Born hi hes
    obtain ⟨hkeq, hklt⟩ := intKeys_spec' hes hks
    have hcell : w.cell? ⟨lc.b, 0, none⟩ = some (.map (some lm.b)) := by
      rw [hbase] at hcm; simp only [Nat.zero_add] at hcm
      simp [World.cell?, hxo, hcm]
    have hbl : lc.b < w.heap.size := (Array.getElem?_eq_some_iff.1 hxo).1
    have hslen : ks.length = ces.size := by
      have := congrArg List.length hkeq; simpa using this.symm
    have hesl : es.length = ces.size := by
      have : ∀ {l : List (AV × AV × Nat)} {m : List MapEntry}, ERs ρ R l m → l.length = m.length := by
        intro l m h; induction h with | nil => rfl | cons _ _ _ _ _ _ ih => simp [ih]
      simpa using this hes
    have hread : ∀ x ∈ ces.toList, ∃ n, n < 9223372036854775808 ∧ x.key = i64 n ∧ n ∈ ks := by
      intro x hx
      have : x.key ∈ ks.map i64 := by rw [← hkeq]; exact List.mem_map_of_mem hx
      obtain ⟨n, hn, hnx⟩ := List.mem_map.1 this
      exact ⟨n, hklt n hn, hnx.symm, hn⟩
    have hu3 : Tryz.prog.underlying 3 = some (.int .i64) := by kernel_rfl
    have hrdx : ∀ x ∈ ces.toList, ∃ n, x.key = i64 n ∧ WideElems.rg Tryz.prog 3 anyR x = (.int .i64 (n : Nat), .nil) ∧ WideElems.rd Tryz.prog 3 anyR x = some (.int .i64 (n : Nat), .nil) := by
      intro x hx
      obtain ⟨n, hn, hnx, _⟩ := hread x hx
      have := rd_i64 hu3 hnx hn
      exact ⟨n, hnx, by simp [WideElems.rg, this], this⟩
    generalize hD : (DataW.map ((ces.toList.map (WideElems.rg Tryz.prog 3 anyR)).foldr DataW.insert []) : DataW Unit) = D0
    have hik : (Go.intKeys D0).Perm (ks.map Int.ofNat) := by
      rw [← hD]
      simp only [Go.intKeys]
      refine ((foldr_insert_perm _).map _).trans ?_
      rw [List.map_map]
      have : ces.toList.map ((fun p : Lit × DataW Unit => intOf p.1) ∘ WideElems.rg Tryz.prog 3 anyR) = ks.map Int.ofNat := by
        have h1 : ∀ x ∈ ces.toList, ∀ n, x.key = i64 n → ((fun p : Lit × DataW Unit => intOf p.1) ∘ WideElems.rg Tryz.prog 3 anyR) x = Int.ofNat n := by
          intro x hx n hxn
          obtain ⟨n', h2, h3, _⟩ := hrdx x hx
          have : n = n' := by rw [hxn] at h2; simp [i64] at h2; omega
          subst this
          simp [h3, intOf]
        exact keys_map hkeq h1
      rw [this]
    have hknd : ks.Nodup := by
      rcases hk with ⟨h1, _⟩ | ⟨x, l, h1, h2, _⟩
      · have := (sortN_perm ks).symm
        rw [h1] at this
        rw [List.Perm.eq_nil this]; exact List.nodup_nil
      · have h3 : (sortN ks).Nodup := by rw [h1]; exact (strictN_spec h2).imp fun h e => by omega
        exact (sortN_perm ks).nodup_iff.1 h3
    have hbnd : (ces.toList.map (·.born)).Nodup := by
      have := (incr_born hi hes).2
      rw [List.Nodup, List.pairwise_map]
      exact this.imp fun h e => by omega
    have hfit2 : WideElems.Fit Tryz.prog 3 anyR ces clock := by
      refine ⟨by unfold maxLen; omega, ⟨fun x hx => hB.lt x (by simpa using hx), hbnd, ?_⟩, fun x hx => ?_⟩
      · rw [hkeq, List.Nodup, List.pairwise_map]
        exact hknd.imp fun {a b} h e => h (by simp [i64] at e; omega)
      · obtain ⟨n, _, _, h3⟩ := hrdx x hx; exact ⟨_, h3⟩
    have hsize : Maps.size D0 = ces.size := by
      rw [← hD]
      simp only [Maps.size]
      rw [(foldr_insert_perm _).length_eq]; simp
    have hown : w.ownsMap Tryz.prog (ren.t 26) anyR lm.b ces.size D0 := by
      rw [hrt]
      exact ⟨ces, clock, hxm, hfit2, Nat.le_refl _, hD.symm⟩
    have hcall := sorted_call L f hren eg lc.b lm.b ces.size D0 w hbl hcell hown (by rw [hsize]; unfold maxLen; omega) (by rw [hsize]; omega)
    rw [run_enter Tryz.func52 (by kernel_rfl) rfl cargs w]
    simp only [Upon]
    rw [arr_eq hc]
    have ebase : lc.base + 0 = 0 := by rw [hbase]
    rw [ebase]
    refine hcall.mono ?_
    rintro e2 w' ⟨v2, ss, rfl, hperm, hown2, hnil, hbelow⟩
    have hgr : Grew w w' := ⟨hbelow.size, fun b hb => hbelow.block b hb, hbelow.tape, hbelow.os, hbelow.output⟩
    have hperm2 : ss.Perm (ks.map Int.ofNat) := hperm.trans hik
    rcases hk with ⟨h1, rfl, rfl⟩ | ⟨x, l, h1, h2, rfl, rfl⟩
    · have hks0 : ks = [] := by
        have := (sortN_perm ks).symm
        rw [h1] at this
        exact List.Perm.eq_nil this
      subst hks0
      have hss : ss = [] := List.Perm.eq_nil hperm2
      exact ⟨_, rfl, R, by rw [hnil.2 hss]; exact .nilslice, hgr.step iv.inv _ _⟩
    · have hsort := sorted_perm_eq hperm2 h1 h2
      have hne : ss ≠ [] := by
        intro h
        rw [h] at hsort
        simp at hsort
      have hsslen : ss.length = (x :: l).length := by
        have h3 := hperm2.length_eq
        have h4 := (sortN_perm ks).length_eq
        rw [h1] at h4
        simp only [List.length_map] at h3
        omega
      obtain ⟨hlen1, hor⟩ := hown2
      rcases hor with ⟨h5, _⟩ | ⟨g, cap, cur, rfl, hgb, hgo, hcap, hcapm, hcur, htake⟩
      · exact absurd (hnil.1 h5) hne
      · have hn0 : R st.next = none := hfr _ (Nat.le_refl _) (by simp [St.new])
        rw [hsslen] at hcap htake
        have hvals : cur.toList.take (x :: l).length = (x :: l).map i64 := by
          rw [Nat.mul_one] at htake
          rw [htake, hsort, List.map_map]; rfl
        refine ⟨_, rfl, R.upd st.next ⟨g, 0, cap⟩, ?_, ?_⟩
        · rw [hsslen]
          exact .slice _ 0 _ _ false 1 ⟨g, 0, cap⟩ _ cap (Inj.upd_eq _ _ _) (.inr (by simp)) (Nat.le_refl _) hcap (fun h => by cases h) (by simp)
        · refine Step.found hgr iv.inv hn0 (l := ⟨g, 0, cap⟩) hgb hgo (.cells _ _ _ _ _ _ _ ⟨fun e' h => by injection h with h; exact ⟨h, rfl, .inl rfl⟩, by simp; omega, fun i v hi => ?_, fun i _ _ h => by omega⟩) _
          rw [get_ofList_leaf] at hi
          have hv := (natAVs_ok (ρ := ρ) (R := R.upd st.next ⟨g, 0, cap⟩) (x :: l)).get hi
          obtain ⟨cv, h6, h7⟩ := hv
          refine ⟨cv, ?_, h7⟩
          rw [← hvals, List.getElem?_take] at h6
          split at h6
          · simpa using h6
          · cases h6
end
end Go.Ab
