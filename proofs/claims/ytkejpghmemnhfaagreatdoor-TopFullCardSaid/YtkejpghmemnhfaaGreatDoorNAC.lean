/- A part of the proof: AbG2. -/
import Derived.Test.YtkejpghmemnhfaaGreatDoorNAB

set_option linter.unusedVariables false
set_option linter.unusedSimpArgs false

namespace Go.Ab
structure KCtx where
  call : CallV
abbrev GtM := Fr → (AV → MV) → MV
abbrev GtR := Fr → (AV → KRes) → KRes
abbrev Gt (β : Type) := Fr → (AV → β) → β
abbrev OpG := Fr → St → KCtx → MV
noncomputable def kvM (v : AV) : GtM := fun _ K => K v
noncomputable def kvR (v : AV) : GtR := fun _ K => K v
noncomputable def kv {β : Type} (v : AV) : Gt β := fun _ K => K v
noncomputable def kA (x : CA) : GtM := match x with
  | .t t => gM (t / 16) (rM (t % 16))
  | .v v => kvM v
noncomputable def kAR (x : CA) : GtR := match x with
  | .t t => gR (t / 16) (rR (t % 16))
  | .v v => kvR v
noncomputable def kAD {β : Type} (x : CA) : Gt β := match x with
  | .t t => gt t
  | .v v => kv v
abbrev GlM := Fr → (List AV → MV) → MV
noncomputable def nl : GlM := fun _ K => K []
noncomputable def cn (x : GtM) (l : GlM) : GlM := fun f K => x f fun v => l f fun vs => K (v :: vs)
noncomputable def kAs : List CA → GlM
  | [] => nl
  | x :: l => cn (kA x) (kAs l)
abbrev GoM := Fr → (Option CA → MV) → MV
noncomputable def on : GoM := fun _ K => K none
noncomputable def os (x : GtM) : GoM := fun f K => x f fun v => K (some (.v v))
noncomputable def kO (x : Option CA) : GoM := match x with
  | none => on
  | some x => os (kA x)
noncomputable def vcs : List AV → List CA
  | [] => []
  | v :: l => .v v :: vcs l
noncomputable def g0 (op : OpF) : OpG := fun _ st cx => op .leaf st cx.call
noncomputable def g1 (op : CA → OpF) (x : GtM) : OpG := fun f st cx => x f fun a => op (.v a) .leaf st cx.call
noncomputable def g2 (op : CA → CA → OpF) (x y : GtM) : OpG := fun f st cx => x f fun a => y f fun b => op (.v a) (.v b) .leaf st cx.call
noncomputable def g3 (op : CA → CA → CA → OpF) (x y z : GtM) : OpG := fun f st cx => x f fun a => y f fun b => z f fun c => op (.v a) (.v b) (.v c) .leaf st cx.call
noncomputable def gl (op : List CA → OpF) (l : GlM) : OpG := fun f st cx => l f fun vs => op (vcs vs) .leaf st cx.call
noncomputable def mv (x : GtM) : OpG := fun f st _ => x f fun v => .ok (v, st)
noncomputable def pk (c a b : GtM) : OpG := fun f st _ => c f fun c => decK c st fun d st => Bool.rec (b f fun v => .ok (v, st)) (a f fun v => .ok (v, st)) d
noncomputable def oCells (st : St) (off : Nat) (s : MV) (o : AObj) : MV := AObj.rec (motive := fun _ => St → Nat → MV → MV) (fun _ cs _ st off s => Option.rec s (fun v => .ok (v, st)) (cs.get off)) (fun _ _ _ _ s => s) (fun _ _ _ _ _ s => s) (fun _ _ _ _ _ _ s => s) (fun _ _ _ s => s) (fun _ _ s => s) o st off s
noncomputable def ld (x : GtM) : OpG := fun f st _ => x f fun p => avPtrM p (fun id off => Option.rec (err "load") (oCells st off (err "load")) (st.heap.get id)) (err "load")
noncomputable def lN (n : Nat) (x : GtM) : OpG := fun f st _ => x f fun p => retL st (loadAt st.heap p (some n))
noncomputable def putC (id off : Nat) (v : AV) (st : St) (s : MV) (o : AObj) : MV := AObj.rec (motive := fun _ => Nat → Nat → AV → St → MV → MV) (fun e cs fz id off v st s => Bool.rec s (Option.rec s (fun _ => cs.setK off v fun cs => st.putK id (.cells e cs fz) fun st => .ok (undef, st)) (cs.get off)) (Nat.ble fz off)) (fun _ _ _ _ _ _ s => s) (fun _ _ _ _ _ _ _ s => s) (fun _ _ _ _ _ _ _ _ s => s) (fun _ _ _ _ _ s => s) (fun _ _ _ _ s => s) o id off v st s
noncomputable def store1 (id off : Nat) (v : AV) (st : St) : MV := Bool.rec (storeAt 1 id off v st) (Option.rec (storeAt 1 id off v st) (putC id off v st (storeAt 1 id off v st)) (st.heap.get id)) v.one
noncomputable def s1 (a x : GtM) : OpG := fun f st _ => a f fun p => avPtrM p (fun id off => x f fun v => store1 id off v st) (err "store: no place")
noncomputable def sN (n : Nat) (a x : GtM) : OpG := fun f st _ => a f fun p => avPtrM p (fun id off => x f fun v => storeAt n id off v st) (err "store: no place")
noncomputable def gStore (n : Nat) : GtM → GtM → OpG := match n with
  | 1 => s1
  | n => sN n
noncomputable def nc (x : GtM) : OpG := fun f st _ => x f fun v => avPtrM v (fun a b => .ok (.ptr a b, st)) (match v with
  | .ptr a b => .ok (.ptr a b, st)
  | .func f a b => .ok (.func f a b, st)
  | .iface t v => .ok (.iface t v, st)
  | _ => err "nil")
noncomputable def ofNats (a b : Int) (K : Nat → Nat → MV) (s : MV) : MV := Int.rec (motive := fun _ => Int → (Nat → Nat → MV) → MV → MV) (fun a b K s => Int.rec (motive := fun _ => Nat → (Nat → Nat → MV) → MV → MV) (fun b a K _ => K a b) (fun _ _ _ s => s) b a K s) (fun _ _ _ s => s) a b K s
noncomputable def ints (a b : AV) (K : IntKind → Nat → Nat → MV) (s : MV) : MV := avIntM a (fun k n => avIntM b (fun j m => Bool.rec s (ofNats n m (fun a b => K k a b) s) (keq k j)) s) s
noncomputable def gAdd (x y : GtM) : OpG := fun f st _ => x f fun x => y f fun y => ints x y (fun k a b => Bool.rec (evBin .add x y st) (forceN (Nat.add a b) fun c => .ok (.int k (.ofNat c), st)) (Nat.blt (Nat.add a b) (half k))) (evBin .add x y st)
noncomputable def gSub (x y : GtM) : OpG := fun f st _ => x f fun x => y f fun y => ints x y (fun k a b => Bool.rec (evBin .sub x y st) (Bool.rec (evBin .sub x y st) (forceN (Nat.sub a b) fun c => .ok (.int k (.ofNat c), st)) (Nat.blt a (half k))) (Nat.ble b a)) (evBin .sub x y st)
noncomputable def tst (st : St) (b : Bool) : MV := Bool.rec (motive := fun _ => St → MV) (fun st => .ok (.bool false, st)) (fun st => .ok (.bool true, st)) b st
noncomputable def gLss (x y : GtM) : OpG := fun f st _ => x f fun x => y f fun y => ints x y (fun _ a b => tst st (Nat.blt a b)) (evBin .lss x y st)
noncomputable def gLeq (x y : GtM) : OpG := fun f st _ => x f fun x => y f fun y => ints x y (fun _ a b => tst st (Nat.ble a b)) (evBin .leq x y st)
noncomputable def gGtr (x y : GtM) : OpG := fun f st _ => x f fun x => y f fun y => ints x y (fun _ a b => tst st (Nat.blt b a)) (evBin .gtr x y st)
noncomputable def gGeq (x y : GtM) : OpG := fun f st _ => x f fun x => y f fun y => ints x y (fun _ a b => tst st (Nat.ble b a)) (evBin .geq x y st)
noncomputable def gEq (x y : GtM) : OpG := fun f st _ => x f fun x => y f fun y => ints x y (fun _ a b => tst st (Nat.beq a b)) (evBin .eql x y st)
noncomputable def gNe (x y : GtM) : OpG := fun f st _ => x f fun x => y f fun y => ints x y (fun _ a b => Bool.rec (tst st true) (tst st false) (Nat.beq a b)) (evBin .neq x y st)
noncomputable def gBinS (op : BinOp) (x y : GtM) : OpG := fun f st _ => x f fun x => y f fun y => evBin op x y st
noncomputable def gBin (op : BinOp) : GtM → GtM → OpG := match op with
  | .add => gAdd
  | .sub => gSub
  | .lss => gLss
  | .leq => gLeq
  | .gtr => gGtr
  | .geq => gGeq
  | .eql => gEq
  | .neq => gNe
  | op => gBinS op
noncomputable def gEql (neg : Bool) (p : Plan) (x y : GtM) : OpG := fun f st _ => x f fun x => y f fun y => retEq neg st (evEq p x y)
noncomputable def gConvInt (k : IntKind) (x : GtM) : OpG := fun f st _ => x f fun v => avIntM v (fun _ n => Int.rec (fun a => Bool.rec (retI k st (some (fwrap k n))) (.ok (.int k n, st)) (Nat.blt a (half k))) (fun _ => retI k st (some (fwrap k n))) n) (match v with
  | .int _ n => retI k st (some (fwrap k n))
  | .sint _ e => .ok (.sint k (.conv k e), st)
  | _ => err "conv")
noncomputable def gMkFunc (f : Nat) (a b : GlM) : OpG := fun fr st _ => a fr fun a => b fr fun b => .ok (.func (.func f) a b, st)
noncomputable def gSliceStr (x : GtM) (lo hi : GoM) : OpG := fun f st cx => x f fun v => lo f fun lo => hi f fun hi => opSliceStr (.v v) lo hi .leaf st cx.call
noncomputable def gSliceSl (esz : Nat) (x : GtM) (lo hi mx : GoM) : OpG := fun f st cx => x f fun v => lo f fun lo => hi f fun hi => mx f fun mx => opSliceSl esz (.v v) lo hi mx .leaf st cx.call
noncomputable def gSliceArr (n esz : Nat) (x : GtM) (lo hi mx : GoM) : OpG := fun f st cx => x f fun v => lo f fun lo => hi f fun hi => mx f fun mx => opSliceArr n esz (.v v) lo hi mx .leaf st cx.call
noncomputable def fA (off : Nat) (x : GtM) : OpG := fun f st _ => x f fun v => avPtrM v (fun id o => forceN (Nat.add o off) fun o => .ok (.ptr id o, st)) (err "fieldAddr")
noncomputable def gField (off : Nat) (n : Option Nat) (x : GtM) : OpG := fun f st _ => x f fun v => avAggM v (fun cs => retL st (partOf cs off n)) (err "field")
noncomputable def idx (v : AV) (len : Nat) (K : Nat → MV) (s : MV) : MV := avIntM v (fun _ i => Int.rec (motive := fun _ => Nat → (Nat → MV) → MV → MV) (fun i len K s => Bool.rec s (K i) (Nat.blt i len)) (fun _ _ _ s => s) i len K s) s
noncomputable def gIdxAddrArr (len esz : Nat) (x i : GtM) : OpG := fun f st _ => x f fun v => avPtrM v (fun id o => i f fun i => idx i len (fun i => forceN (Nat.add o (Nat.mul i esz)) fun o => .ok (.ptr id o, st)) (err "index")) (err "index")
noncomputable def ia (esz : Nat) (x i : GtM) : OpG := fun f st _ => x f fun v => avSliceM v (fun id o len _ _ e => i f fun i => idx i len (fun i => Bool.rec (err "index") (forceN (Nat.add o (Nat.mul i esz)) fun o => .ok (.ptr id o, st)) (Nat.beq e esz)) (err "index")) (err "index")
noncomputable def gIdxStr (x i : GtM) : OpG := fun f st _ => x f fun v => avStrM v (fun n b => i f fun i => idx i n (fun i => forceN (byteAt b i) fun c => .ok (.int .u8 (.ofNat c), st)) (err "index str")) (err "index str")
noncomputable def gLookup (s : Bool) (zero : AV) (ok : Bool) (m k : GtM) : OpG := fun f st _ => k f fun k => m f fun m => match keyIs s k with
  | true => evLookup zero ok m k st
  | false => err "lookup: kind"
noncomputable def nthL (st : St) (i : Nat) (vs : List AV) : MV := match dropL i vs with
  | v :: _ => .ok (v, st)
  | [] => err "extract"
noncomputable def nth0 (st : St) (vs : List AV) : MV := List.rec (motive := fun _ => St → MV) (fun _ => err "extract") (fun v _ _ st => .ok (v, st)) vs st
noncomputable def nth1 (st : St) (vs : List AV) : MV := List.rec (motive := fun _ => St → MV) (fun _ => err "extract") (fun _ l _ st => nth0 st l) vs st
noncomputable def gEx0 (x : GtM) : OpG := fun f st _ => x f fun v => avTupleM v (nth0 st) (err "extract")
noncomputable def gEx1 (x : GtM) : OpG := fun f st _ => x f fun v => avTupleM v (nth1 st) (err "extract")
noncomputable def gExN (i : Nat) (x : GtM) : OpG := fun f st _ => x f fun v => avTupleM v (nthL st i) (err "extract")
noncomputable def gExtract (i : Nat) : GtM → OpG := match i with
  | 0 => gEx0
  | 1 => gEx1
  | i => gExN i
noncomputable def cl (f : Nat) (l : GlM) : OpG := fun fr st cx => l fr fun vs => cx.call (.func f) vs st
noncomputable def gCallV (x : GtM) (l : GlM) : OpG := fun fr st cx => x fr fun v => avFuncM v (fun fn first captured => l fr fun vs => cx.call fn (first ++ (vs ++ captured)) st) (err "call: no function")
noncomputable def gAppend (elem esz bytes : Nat) (x y : GtM) : OpG := fun f st _ => x f fun x => y f fun y => evAppend elem esz bytes x y st
noncomputable def lS (x : GtM) : OpG := fun f st _ => x f fun v => avStrM v (fun n _ => .ok (.int .i64 (.ofNat n), st)) (err "len")
noncomputable def ln (x : GtM) : OpG := fun f st _ => x f fun v => avSliceM v (fun _ _ n _ _ _ => .ok (.int .i64 (.ofNat n), st)) (match v with
  | .slice _ _ n _ _ _ => .ok (.int .i64 (.ofNat n), st)
  | .nilslice => .ok (.int .i64 (.ofNat 0), st)
  | _ => err "len")
noncomputable def pPlaces : List (Nat × Nat × CA) → List (Nat × Nat)
  | [] => []
  | (a, b, _) :: l => (a, b) :: pPlaces l
noncomputable def pZip : List (Nat × Nat) → List AV → List (Nat × Nat × CA)
  | (a, b) :: l, v :: vs => (a, b, .v v) :: pZip l vs
  | _, _ => []
noncomputable def gBuild (zero : List AV) (pl : List (Nat × Nat)) (l : GlM) : OpG := fun f st cx => l f fun vs => opBuild zero (pZip pl vs) .leaf st cx.call
noncomputable def gBuildSlice (elem esz len : Nat) (zero : List AV) (pl : List (Nat × Nat)) (l : GlM) : OpG := fun f st cx => l f fun vs => opBuildSlice elem esz len zero (pZip pl vs) .leaf st cx.call
noncomputable def kOp (o : CO) : OpG :=
  match o with
  | .mv x => mv (kA x)
  | .pick c a b => pk (kA c) (kA a) (kA b)
  | .newc e c => g0 (opNewc e c)
  | .box e x => g1 (opBox e) (kA x)
  | .build z p => gBuild z (pPlaces p) (kAs (partsA p))
  | .buildSlice e s l z p => gBuildSlice e s l z (pPlaces p) (kAs (partsA p))
  | .load1 x => ld (kA x)
  | .loadN n x => lN n (kA x)
  | .store n a x => gStore n (kA a) (kA x)
  | .nilCheck x => nc (kA x)
  | .bin op x y => gBin op (kA x) (kA y)
  | .eql n p x y => gEql n p (kA x) (kA y)
  | .un op x => g1 (opUn op) (kA x)
  | .convInt k x => gConvInt k (kA x)
  | .same x => g1 opSame (kA x)
  | .strOfBytes x => g1 opStrOfBytes (kA x)
  | .bytesOfStr e x => g1 (opBytesOfStr e) (kA x)
  | .strOfInt x => g1 opStrOfInt (kA x)
  | .mkIface t x => g1 (opMkIface t) (kA x)
  | .mkFunc f a b => gMkFunc f (kAs a) (kAs b)
  | .mkMap => g0 opMkMap
  | .mkSlice e s b z l c => g2 (opMkSlice e s b z) (kA l) (kA c)
  | .sliceStr x l h => gSliceStr (kA x) (kO l) (kO h)
  | .sliceSl e x l h m => gSliceSl e (kA x) (kO l) (kO h) (kO m)
  | .sliceArr n e x l h m => gSliceArr n e (kA x) (kO l) (kO h) (kO m)
  | .fieldAddr o x => fA o (kA x)
  | .field o n x => gField o n (kA x)
  | .idxAddrArr l e x i => gIdxAddrArr l e (kA x) (kA i)
  | .idxAddrSl e x i => ia e (kA x) (kA i)
  | .idxArr l e n x i => g2 (opIdxArr l e n) (kA x) (kA i)
  | .idxStr x i => gIdxStr (kA x) (kA i)
  | .lookup s z ok m k => gLookup s z ok (kA m) (kA k)
  | .mapUpd s m k v => g3 (opMapUpd s) (kA m) (kA k) (kA v)
  | .range s x => g1 (opRange s) (kA x)
  | .next s it => g1 (opNext s) (kA it)
  | .entry it => g1 opEntry (kA it)
  | .extract i x => gExtract i (kA x)
  | .call f l => cl f (kAs l)
  | .callV f l => gCallV (kA f) (kAs l)
  | .append e s b x y => gAppend e s b (kA x) (kA y)
  | .copy e x y => g2 (opCopy e) (kA x) (kA y)
  | .delete s m k => g2 (opDelete s) (kA m) (kA k)
  | .clear z x => g1 (opClear z) (kA x)
  | .lenStr x => lS (kA x)
  | .lenSl x => ln (kA x)
  | .lenArr n => g0 (opLenArr n)
  | .lenMap x => g1 opLenMap (kA x)
  | .capSl x => g1 opCapSl (kA x)
  | .min l => gl opMin (kAs l)
  | .max l => gl opMax (kAs l)
  | .sliceData x => g1 opSliceData (kA x)
  | .unsafeStr e p n => g2 (opUnsafeStr e) (kA p) (kA n)
  | .tyAssert t ok x => g1 (opTyAssert t ok) (kA x)
  | .unsafeTo x => g1 opUnsafeTo (kA x)
  | .unsafeFrom e k x => g1 (opUnsafeFrom e k) (kA x)
  | .bad n => g0 (opBad n)
abbrev KOp := KCtx → (Fr → St → KRes) → Fr → St → KRes
abbrev Dst := Fr → AV → (Fr → KRes) → KRes
noncomputable def retK : MV → (AV → St → KRes) → KRes := Except.rec (motive := fun _ => (AV → St → KRes) → KRes) (fun _ _ => .bad) (fun p K => Prod.rec (motive := fun _ => (AV → St → KRes) → KRes) (fun v st K => K v st) p K)
noncomputable def dN : Dst := fun f _ K => K f
noncomputable def kDst (d : Option Nat) : Dst := match d with
  | some d => wR (d / 16) (uR (d % 16))
  | none => dN
noncomputable def ko (d : Dst) (op : OpG) : KOp := fun cx K f st => retK (op f st cx) fun v st => d f v fun f => K f st
noncomputable def decKR (v : AV) (st : St) (K : Bool → St → KRes) : KRes :=
  match v with
  | .bool b => K b st
  | .sbool s => match st with
    | ⟨h, n, lo, d :: sc, tr⟩ => K d ⟨h, n, lo, sc, (s, d) :: tr⟩
    | _ => .bad
  | _ => .bad
noncomputable def sameB (b want : Bool) : Bool := Bool.rec (Bool.rec true false b) b want
noncomputable def wantKR (want : Bool) (st : St) (K : Bool → St → KRes) (v : AV) : KRes :=
  match v with
  | .bool b => K (sameB b want) st
  | .sbool s => decKR (.sbool s) st fun b st => K (sameB b want) st
  | .any => .bad
  | _ => K false st
noncomputable def kgo (d : Dst) (op : OpG) (cx : KCtx) (K : Fr → St → KRes) (f : Fr) (b : Bool) (st : St) : KRes := Bool.rec (d f undef fun f => K f st) (retK (op f st cx) fun v st => d f v fun f => K f st) b
noncomputable def kg (d : Dst) (op : OpG) (x : GtR) (want : Bool) : KOp := fun cx K f st => x f fun g => avBoolR g (fun b => kgo d op cx K f (sameB b want) st) (wantKR want st (kgo d op cx K f) g)
noncomputable def kOper (o : COper) : KOp := match o with
  | ⟨d, op, none, _⟩ => ko (kDst d) (kOp op)
  | ⟨d, op, some (x, want), _⟩ => kg (kDst d) (kOp op) (kAR x) want
noncomputable def kOpers : List COper → List KOp
  | [] => []
  | o :: l => kOper o :: kOpers l
noncomputable def runOps (cx : KCtx) (K : Fr → St → KRes) (l : List KOp) : Fr → St → KRes := List.rec K (fun o _ ih => o cx ih) l
structure KDOp where
  d : Fr → AV → (Fr → Option KD) → Option KD
  op : OpG
  cls : Nat
  ld : Option (Gt (Option KD) × Option Nat)
  guard : Option (Gt (Option KD) × Bool)
  anc : Nat
noncomputable def oD (d : Fr → AV → (Fr → Option KD) → Option KD) (f : Fr) (base : T AObj) (bases : List (T AObj)) (pend : List (Nat × News)) (softs hmask : Nat) (hards : List (Nat × Nat)) (loads : List LoadR) (next low : Nat) (sc : List Bool) (tr : List (SB × Bool)) (v : AV) (K : KD → Option KD) : Option KD :=
  forceN softs fun softs => forceN hmask fun hmask => forceN next fun next => forceN low fun low => d f v fun f => K ⟨f, base, bases, pend, softs, hmask, hards, loads, next, low, sc, tr⟩
noncomputable def okM (m : MV) (K : AV → St → Option KD) : Option KD := Except.rec (fun _ => none) (fun p => Prod.rec (fun v st => K v st) p) m
noncomputable def kMany (cx : KCtx) (i : Nat) (o : KDOp) (s : KD) (K : KD → Option KD) : Option KD :=
  match s with
  | ⟨f, base, bases, pend, softs, hmask, hards, loads, next, low, sc, tr⟩ =>
    okM (o.op f { heap := heapFor base o.anc pend, next := next, low := next, sc := sc, tr := tr } cx) fun v st => match st with
      | ⟨h, n, lo, sc', tr'⟩ => match within hmask o.anc with
        | false => none
        | true => match Nat.ble next lo with
          | true => oD o.d f base bases (newsOf i v h next n pend) (Nat.lor softs (Nat.pow 2 i)) hmask hards loads n low sc' tr' v K
          | false => match within softs o.anc with
            | false => none
            | true => oD o.d f h (base :: bases) (pendRest o.anc pend) 0 (Nat.lor hmask (Nat.pow 2 i)) ((i, o.anc) :: hards) loads n (lowered low lo) sc' tr' v K
noncomputable def kPure (cx : KCtx) (o : KDOp) (s : KD) (K : KD → Option KD) : Option KD :=
  match s with
  | ⟨f, base, bases, pend, softs, hmask, hards, loads, next, low, sc, tr⟩ =>
    okM (o.op f { heap := .leaf, next := next, low := low, sc := sc, tr := tr } cx) fun v st => match st with
      | ⟨_, _, _, sc', tr'⟩ => oD o.d f base bases pend softs hmask hards loads next low sc' tr' v K
noncomputable def kAlloc (cx : KCtx) (i : Nat) (o : KDOp) (s : KD) (K : KD → Option KD) : Option KD :=
  match s with
  | ⟨f, base, bases, pend, softs, hmask, hards, loads, next, low, sc, tr⟩ =>
    okM (o.op f { heap := .leaf, next := next, low := next, sc := sc, tr := tr } cx) fun v st => match st with
      | ⟨h, n, lo, sc', tr'⟩ => match Nat.ble next lo with
        | true => oD o.d f base bases (newsOf i v h next n pend) softs hmask hards loads n low sc' tr' v K
        | false => none
noncomputable def kLoad (cx : KCtx) (i : Nat) (o : KDOp) (x : Gt (Option KD)) (n : Option Nat) (s : KD) (K : KD → Option KD) : Option KD :=
  match s with
  | ⟨f, base, bases, pend, softs, hmask, hards, loads, next, low, sc, tr⟩ => x f fun p => match loadAt base p n with
    | some v => oD o.d f base bases pend softs hmask hards ({ j := i, anc := o.anc, p := p, n := n, v := v } :: loads) next low sc tr v K
    | none => kMany cx i o ⟨f, base, bases, pend, softs, hmask, hards, loads, next, low, sc, tr⟩ K
noncomputable def kDrawOp (cx : KCtx) (i : Nat) (o : KDOp) (s : KD) (K : KD → Option KD) : Option KD :=
  match o.cls with
  | 0 => kPure cx o s K
  | 1 => kAlloc cx i o s K
  | _ => match o.ld with
    | some (x, n) => kLoad cx i o x n s K
    | none => kMany cx i o s K
noncomputable def decKO (v : AV) (sc : List Bool) (tr : List (SB × Bool)) (K : Bool → List Bool → List (SB × Bool) → Option KD) : Option KD :=
  match v with
  | .bool b => K b sc tr
  | .sbool s => match sc with
    | d :: sc => K d sc ((s, d) :: tr)
    | [] => none
  | .any => none
  | _ => none
noncomputable def wantKO (want : Bool) (sc : List Bool) (tr : List (SB × Bool)) (K : Bool → List Bool → List (SB × Bool) → Option KD) (v : AV) : Option KD :=
  match v with
  | .bool b => K (sameB b want) sc tr
  | .sbool s => decKO (.sbool s) sc tr fun b sc tr => K (sameB b want) sc tr
  | .any => none
  | _ => K false sc tr
noncomputable def kDraw1 (cx : KCtx) (o : KDOp) (rest : Nat → KD → Option KD) (i : Nat) (s : KD) : Option KD :=
  match o.guard with
  | none => kDrawOp cx i o s fun s => rest (Nat.succ i) s
  | some (x, want) => match s with
    | ⟨f, base, bases, pend, softs, hmask, hards, loads, next, low, sc, tr⟩ => x f (wantKO want sc tr fun b sc tr => match b with
      | false => o.d f undef fun f => rest (Nat.succ i) ⟨f, base, bases, pend, softs, hmask, hards, loads, next, low, sc, tr⟩
      | true => kDrawOp cx i o ⟨f, base, bases, pend, softs, hmask, hards, loads, next, low, sc, tr⟩ fun s => rest (Nat.succ i) s)
noncomputable def kDraw (cx : KCtx) (l : List KDOp) : Nat → KD → Option KD := List.rec (fun _ s => some s) (fun o _ ih i s => kDraw1 cx o ih i s) l
noncomputable def dNO : Fr → AV → (Fr → Option KD) → Option KD := fun f _ K => K f
noncomputable def kDstO (d : Option Nat) : Fr → AV → (Fr → Option KD) → Option KD := match d with
  | some d => wt d
  | none => dNO
noncomputable def kLd (o : CO) : Option (Gt (Option KD) × Option Nat) := match o with
  | .load1 x => some (kAD x, none)
  | .loadN n x => some (kAD x, some n)
  | _ => none
noncomputable def kGd (g : Option (CA × Bool)) : Option (Gt (Option KD) × Bool) := match g with
  | none => none
  | some (x, b) => some (kAD x, b)
noncomputable def kDOper (o : COper) : KDOp := match o with
  | ⟨d, op, g, anc⟩ => ⟨kDstO d, kOp op, opClass op, kLd op, kGd g, anc⟩
noncomputable def kDOpers : List COper → List KDOp
  | [] => []
  | o :: l => kDOper o :: kDOpers l
noncomputable def kLoadsOk (s : KD) : Bool := match s.hards with
  | [] => true
  | _ => checkLoads s.hards (revAnd s.bases [s.base]) s.loads
noncomputable def kDrawAll (cx : KCtx) (l : List KDOp) (f : Fr) (st : St) (K : Fr → St → KRes) : KRes :=
  match st with
  | ⟨h, n, lo, sc, tr⟩ => match kDraw cx l 0 ⟨f, h, [], [], 0, 0, [], [], n, lo, sc, tr⟩ with
    | none => .bad
    | some s => match kLoadsOk s with
      | true => K s.f { heap := heapAll s.base s.pend, next := s.next, low := s.low, sc := s.sc, tr := s.tr }
      | false => .bad
inductive KC where
  | skip
  | ret
  | exit (i : Nat)
  | region (l : List KOp)
  | draw (l : List KDOp)
  | seq (a b : KC)
  | cond (c : Gt KRes) (a b : KC)
  | block (i : Nat) (b : KC)
  | loop (b : KC)
  | fail
abbrev KEv := KC → Fr → St → KRes
noncomputable def kThen : KRes → (Fr → St → KRes) → KRes := KRes.rec (motive := fun _ => (Fr → St → KRes) → KRes) (fun e f st K => Ex.rec (motive := fun _ => Fr → St → (Fr → St → KRes) → KRes) (fun f st K => K f st) (fun i f st _ => .ok (.exit i) f st) (fun f st _ => .ok .ret f st) e f st K) (fun _ => .bad)
noncomputable def kEndBlock : KRes → Nat → KRes := KRes.rec (motive := fun _ => Nat → KRes) (fun e f st i => Ex.rec (motive := fun _ => Fr → St → Nat → KRes) (fun f st _ => .ok .normal f st) (fun j f st i => Bool.rec (.ok (.exit j) f st) (.ok .normal f st) (Nat.beq j i)) (fun f st _ => .ok .ret f st) e f st i) (fun _ => .bad)
abbrev KCd := KCtx → KEv → Fr → St → KRes
noncomputable def kN : Fr → St → KRes := fun f st => .ok .normal f st
noncomputable def kcSkip : KCd := fun _ _ f st => .ok .normal f st
noncomputable def kcRet : KCd := fun _ _ f st => .ok .ret f st
noncomputable def kcExit (i : Nat) : KCd := fun _ _ f st => .ok (.exit i) f st
noncomputable def kcRegion (l : List KOp) : KCd := fun cx _ f st => runOps cx kN l f st
noncomputable def kcDraw (l : List KDOp) : KCd := fun cx _ f st => kDrawAll cx l f st kN
noncomputable def kcSeq (a b : KC) (_ _ : KCd) : KCd := fun _ rec f st => kThen (rec a f st) (rec b)
noncomputable def kcIf (d : Bool) (a b : KC) (rec : KEv) (f : Fr) (st : St) : KRes := Bool.rec (motive := fun _ => KC → KC → KEv → Fr → St → KRes) (fun _ b rec f st => rec b f st) (fun a _ rec f st => rec a f st) d a b rec f st
noncomputable def kcCond (c : GtR) (a b : KC) (_ _ : KCd) : KCd := fun _ rec f st => c f fun v => avBoolR v (fun d => kcIf d a b rec f st) (decKR v st fun d st => kcIf d a b rec f st)
noncomputable def kcBlock (i : Nat) (b : KC) (_ : KCd) : KCd := fun _ rec f st => kEndBlock (rec b f st) i
noncomputable def kcLoop (b : KC) (_ : KCd) : KCd := fun _ rec f st => kThen (rec b f st) (rec (.loop b))
noncomputable def kcFail : KCd := fun _ _ _ _ => .bad
noncomputable def kCd : KC → KCd := KC.rec kcSkip kcRet kcExit kcRegion kcDraw kcSeq kcCond kcBlock kcLoop kcFail
noncomputable def kStep (cx : KCtx) (rec : KEv) : KEv := fun c => kCd c cx rec
noncomputable def fitA (x : CA) : Bool := match x with
  | .t t => Nat.blt t 256
  | .v _ => true
noncomputable def fitAs : List CA → Bool
  | [] => true
  | x :: l => fitA x && fitAs l
noncomputable def fitD (d : Option Nat) : Bool := match d with
  | some d => Nat.blt d 256
  | none => true
noncomputable def fitG (g : Option (CA × Bool)) : Bool := match g with
  | some (x, _) => fitA x
  | none => true
noncomputable def fitOs : List COper → Bool
  | [] => true
  | o :: l => (fitD o.dst && (fitG o.guard && fitAs o.op.args)) && fitOs l
noncomputable def kC : CCode → KC
  | .skip => .skip
  | .ret => .ret
  | .exit i => .exit i
  | .region l => match fitOs l with
    | true => .region (kOpers l)
    | false => .fail
  | .draw l => match fitOs l with
    | true => .draw (kDOpers l)
    | false => .fail
  | .seq a b => .seq (kC a) (kC b)
  | .cond c a b => match fitA c with
    | true => .cond (kAR c) (kC a) (kC b)
    | false => .fail
  | .block i b => .block i (kC b)
  | .loop b => .loop (kC b)
  | .rangeFunc .. => .fail
  | .fail => .fail
abbrev KResF := Fr → T AObj → Option (List AV)
noncomputable def rN : KResF := fun _ _ => some []
noncomputable def rT (g : Gt (Option (List AV))) (r : KResF) : KResF := fun f h => match r f h with
  | some l => g f fun v => some (v :: l)
  | none => none
noncomputable def rC (g : Gt (Option (List AV))) (n : Option Nat) (r : KResF) : KResF := fun f h => g f fun p => match loadAt h p n with
  | some v => match r f h with
    | some l => some (v :: l)
    | none => none
  | none => none
noncomputable def kRes : List CRes → KResF
  | [] => rN
  | .tmp t :: l => rT (gt t) (kRes l)
  | .cell t n :: l => rC (gt t) n (kRes l)
noncomputable def fitR : List CRes → Bool
  | [] => true
  | .tmp t :: l => Nat.blt t 256 && fitR l
  | .cell t _ :: l => Nat.blt t 256 && fitR l
inductive KF where
  | none
  | fast (n : Nat) (body : KC) (res : KResF)
  | slow (cf : CFunc)
  | ov (o : Ov)
noncomputable def hasRange : CCode → Bool
  | .rangeFunc .. => true
  | .seq a b => hasRange a || hasRange b
  | .cond _ a b => hasRange a || hasRange b
  | .block _ b => hasRange b
  | .loop b => hasRange b
  | _ => false
noncomputable def kF (cf : CFunc) : KF := match cf with
  | ⟨n, res, body⟩ => match fitR res && !hasRange body with
    | true => .fast n (kC body) (kRes res)
    | false => .slow ⟨n, res, body⟩
abbrev Tbl := N8 (N8 (N8 KF))
noncomputable def look (t : Tbl) (f : Nat) : KF := match Nat.blt f 512 with
  | true => prj (f % 8) (prj (f / 8 % 8) (prj (f / 64) t))
  | false => .none
noncomputable def endK (res : KResF) (r : KRes) : MV := KRes.rec (fun e f st => match e with
  | .exit _ => .error "exit"
  | _ => match res f st.heap with
    | some l => .ok (oneOrMore l, st)
    | none => .error "results") (.error "code") r
noncomputable def callKF (kev : KEv) (sev : EvF) (args : List AV) (st : St) (k : KF) : MV := KF.rec
  (.error "no function")
  (fun n body res => match Nat.ble (lenL args) n && Nat.ble (lenL args) 16 with
    | true => fa0 args fun f => endK res (kev body f st)
    | false => .error "arguments")
  (fun cf => callBody cf sev args st)
  (fun o => o args st) k
noncomputable def callK (t : Tbl) (kev : KEv) (sev : EvF) : CallV := fun fn args st => match fn with
  | .func f => callKF kev sev args st (look t f)
  | .yield l => callRound sev l args st
noncomputable def isF (k : KF) : Bool := match k with
  | .fast .. => true
  | .slow _ => true
  | _ => false
noncomputable def sRange (t : Tbl) (call : CallV) (f : CA) (ps : List Nat) (assign body : CCode) (rnd : Bool) (tm : T AV) (mk : List Nat) (st : St) : Res := match rnd with
  | true => .bad "range over a function, in a round"
  | false => evAK f tm fun v => match v with
    | .func (.func f) first captured => match isF (look t f) with
      | true => st.newK .defr fun r st => st.newK (.loop { busy := false, over := false, pending := none, tm, params := ps, assign, body }) fun l st =>
        endRange r l tm mk (call (.func f) (first ++ (.func (.yield l) [] [] :: captured)) st)
      | false => .bad "range over a function: no such function"
    | _ => .bad "range over a function"
noncomputable def sStep (t : Tbl) (call : CallV) (rec : EvF) : EvF := fun rnd c tm mk st => match c with
  | .skip => .ok .normal tm mk st
  | .ret => .ok .ret tm mk st
  | .exit i => .ok (.exit i) tm mk st
  | .region ops => endOps mk (evOps call ops tm st)
  | .draw ops => endOps mk (evDrawAll call ops tm st)
  | .seq a b => thenK (rec rnd b) (rec rnd a tm mk st)
  | .cond c a b => evAK c tm fun v => decR v st fun d st => match d with
    | true => rec rnd a tm mk st
    | false => rec rnd b tm mk st
  | .block i b => endBlock i (rec rnd b tm mk st)
  | .loop b => thenK (rec rnd (.loop b)) (rec rnd b tm mk st)
  | .rangeFunc f ps a b => sRange t call f ps a b rnd tm mk st
  | .fail => .bad "no such code"
noncomputable def kBad : KEv := fun _ _ _ => .bad
noncomputable def both (t : Tbl) (n : Nat) : KEv × EvF := Nat.rec (kBad, evBad) (fun _ ih => (kStep ⟨callK t ih.1 ih.2⟩ ih.1, sStep t (callK t ih.1 ih.2) ih.2)) n
noncomputable def kev (t : Tbl) (n : Nat) : KEv := (both t n).1
end Go.Ab
