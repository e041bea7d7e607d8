/- A part of the proof: AbA, AbB, AbC, AbD, AbE, AbF. -/
import Derived.OrdersIn
import Derived.RangeFuncLeaves

set_option linter.unusedVariables false
set_option linter.unusedSimpArgs false

namespace Go.Ab
inductive T (α : Type) where
  | leaf
  | node (l : T α) (v : Option α) (r : T α)
namespace T
variable {α : Type}
noncomputable def get (t : T α) : Nat → Option α :=
  T.rec (fun _ => none) (fun _ v _ ihl ihr k => Nat.casesOn k v (fun k => Bool.casesOn (Nat.beq (Nat.mod k 2) 0) (ihl (Nat.div k 2)) (ihr (Nat.div k 2)))) t
noncomputable def single : Nat → Nat → α → T α
  | 0, _, v => .node .leaf (some v) .leaf
  | f + 1, k, v =>
    match k with
    | 0 => .node .leaf (some v) .leaf
    | k + 1 => match Nat.beq (Nat.mod k 2) 0 with
      | true => .node .leaf none (single f (Nat.div k 2) v)
      | false => .node (single f (Nat.div k 2) v) none .leaf
noncomputable def set : T α → Nat → α → T α
  | .leaf, k, v => single k k v
  | .node l o r, k, v =>
    match k with
    | 0 => .node l (some v) r
    | k + 1 => match Nat.beq (Nat.mod k 2) 0 with
      | true => .node l o (r.set (Nat.div k 2) v)
      | false => .node (l.set (Nat.div k 2) v) o r
noncomputable def singleK {β : Type} (f : Nat) : Nat → α → (T α → β) → β :=
  Nat.rec (fun _ v K => K (.node .leaf (some v) .leaf)) (fun _ ih k v K => Nat.casesOn k (K (.node .leaf (some v) .leaf)) (fun k => Bool.casesOn (Nat.beq (Nat.mod k 2) 0)
    (ih (Nat.div k 2) v fun l => K (.node l none .leaf)) (ih (Nat.div k 2) v fun r => K (.node .leaf none r)))) f
noncomputable def setK {β : Type} (t : T α) : Nat → α → (T α → β) → β :=
  T.rec (fun k v K => singleK k k v K) (fun l o r ihl ihr k v K => Nat.casesOn k (K (.node l (some v) r)) (fun k => Bool.casesOn (Nat.beq (Nat.mod k 2) 0)
    (ihl (Nat.div k 2) v fun l => K (.node l o r)) (ihr (Nat.div k 2) v fun r => K (.node l o r)))) t
noncomputable def del : T α → Nat → T α
  | .leaf, _ => .leaf
  | .node l o r, k =>
    match k with
    | 0 => .node l none r
    | k + 1 => match Nat.beq (Nat.mod k 2) 0 with
      | true => .node l o (r.del (Nat.div k 2))
      | false => .node (l.del (Nat.div k 2)) o r
noncomputable def ofList (t : T α) (i : Nat) : List α → T α
  | [] => t
  | x :: l => (t.set i x).ofList (i + 1) l
noncomputable def ofListK {β : Type} (t : T α) (i : Nat) (l : List α) (K : T α → β) : β :=
  match l with
  | [] => K t
  | x :: l => t.setK i x fun t => ofListK t (Nat.succ i) l K
end T
inductive SE where
  | lit (n : Int)
  | var (i : Nat)
  | bin (op : BinOp) (k : IntKind) (a b : SE)
  | conv (k : IntKind) (a : SE)
  deriving DecidableEq, Repr
inductive SB where
  | cmp (op : BinOp) (a b : SE)
  | not (b : SB)
  deriving DecidableEq, Repr
inductive AFn where
  | func (f : Nat)
  | yield (l : Nat)
  deriving DecidableEq, Repr
inductive AV where
  | bool (b : Bool)
  | sbool (s : SB)
  | int (k : IntKind) (n : Int)
  | sint (k : IntKind) (e : SE)
  | str (n bits : Nat)
  | nilptr
  | ptr (id off : Nat)
  | nilslice
  | slice (id off len cap : Nat) (ex : Bool) (esz : Nat)
  | nilmap
  | map (id : Nat)
  | func (fn : AFn) (first captured : List AV)
  | nilFunc
  | iface (t : Nat) (v : AV)
  | nilIface
  | agg (cells : List AV)
  | tuple (vs : List AV)
  | any
  deriving Repr, Inhabited
noncomputable def undef : AV := .tuple []
inductive CA where
  | t (t : Nat)
  | v (v : AV)
  deriving Repr, Inhabited
inductive Plan where
  | leaf (k : Nat)
  | fields (l : List (Nat × Option Nat × Plan))
  deriving Repr, Inhabited
inductive CO where
  | mv (x : CA)
  | pick (c a b : CA)
  | newc (elem : Nat) (cells : List AV)
  | box (elem : Nat) (x : CA)
  | build (zero : List AV) (parts : List (Nat × Nat × CA))
  | buildSlice (elem esz len : Nat) (zero : List AV) (parts : List (Nat × Nat × CA))
  | load1 (x : CA)
  | loadN (n : Nat) (x : CA)
  | store (n : Nat) (a x : CA)
  | nilCheck (x : CA)
  | bin (op : BinOp) (x y : CA)
  | eql (neg : Bool) (plan : Plan) (x y : CA)
  | un (op : UnOp) (x : CA)
  | convInt (k : IntKind) (x : CA)
  | same (x : CA)
  | strOfBytes (x : CA)
  | bytesOfStr (elem : Nat) (x : CA)
  | strOfInt (x : CA)
  | mkIface (t : Nat) (x : CA)
  | mkFunc (f : Nat) (first captured : List CA)
  | mkMap
  | mkSlice (elem esz bytes : Nat) (zero : List AV) (len cap : CA)
  | sliceStr (x : CA) (lo hi : Option CA)
  | sliceSl (esz : Nat) (x : CA) (lo hi mx : Option CA)
  | sliceArr (n esz : Nat) (x : CA) (lo hi mx : Option CA)
  | fieldAddr (off : Nat) (x : CA)
  | field (off : Nat) (n : Option Nat) (x : CA)
  | idxAddrArr (len esz : Nat) (x i : CA)
  | idxAddrSl (esz : Nat) (x i : CA)
  | idxArr (len esz : Nat) (n : Option Nat) (x i : CA)
  | idxStr (x i : CA)
  | lookup (s : Bool) (zero : AV) (ok : Bool) (m k : CA)
  | mapUpd (s : Bool) (m k v : CA)
  | range (isStr : Bool) (x : CA)
  | next (isStr : Bool) (it : CA)
  | entry (it : CA)
  | extract (i : Nat) (x : CA)
  | call (f : Nat) (args : List CA)
  | callV (f : CA) (args : List CA)
  | append (elem esz bytes : Nat) (x y : CA)
  | copy (esz : Nat) (x y : CA)
  | delete (s : Bool) (m k : CA)
  | clear (zero : List AV) (x : CA)
  | lenStr (x : CA)
  | lenSl (x : CA)
  | lenArr (n : Nat)
  | lenMap (x : CA)
  | capSl (x : CA)
  | min (l : List CA)
  | max (l : List CA)
  | sliceData (x : CA)
  | unsafeStr (elem : Nat) (p n : CA)
  | tyAssert (t : Nat) (ok : Bool) (x : CA)
  | unsafeTo (x : CA)
  | unsafeFrom (elem last : Nat) (x : CA)
  | bad (why : Nat)
  deriving Repr, Inhabited
structure COper where
  dst : Option Nat
  op : CO
  guard : Option (CA × Bool)
  anc : Nat
  deriving Repr, Inhabited
inductive CCode where
  | skip
  | ret
  | exit (id : Nat)
  | region (ops : List COper)
  | draw (ops : List COper)
  | seq (a b : CCode)
  | cond (c : CA) (thn els : CCode)
  | block (id : Nat) (body : CCode)
  | loop (body : CCode)
  | rangeFunc (f : CA) (params : List Nat) (assign body : CCode)
  | fail
  deriving Repr, Inhabited
inductive CRes where
  | tmp (t : Nat)
  | cell (t : Nat) (n : Option Nat)
  deriving Repr, Inhabited
structure CFunc where
  ntmps : Nat
  results : List CRes
  body : CCode
  deriving Repr, Inhabited
inductive Ex where
  | normal
  | exit (id : Nat)
  | ret
  deriving DecidableEq, Repr
structure Loop where
  busy : Bool
  over : Bool
  pending : Option Ex
  tm : T AV
  params : List Nat
  assign : CCode
  body : CCode
inductive AObj where
  | cells (elem : Option Nat) (cs : T AV) (fz : Nat)
  | map (es : List (AV × AV × Nat)) (clock : Nat)
  | strIter (n bits pos : Nat)
  | mapIter (m : Option Nat) (since : Nat) (seen : List Nat) (last : Nat)
  | loop (l : Loop)
  | defr
structure St where
  heap : T AObj
  next : Nat
  low : Nat
  sc : List Bool
  tr : List (SB × Bool)
abbrev M (α : Type) := Except String α
noncomputable def AV.cells : AV → List AV
  | .agg cs => cs
  | v => [v]
noncomputable def keq (a b : IntKind) : Bool := match a, b with
  | .i8, .i8 | .i16, .i16 | .i32, .i32 | .i64, .i64 | .u8, .u8 | .u16, .u16 | .u32, .u32 | .u64, .u64 => true
  | _, _ => false
mutual
noncomputable def AV.beq : AV → AV → Bool
  | .bool a, .bool b => a == b
  | .sbool a, .sbool b => decide (a = b)
  | .int k a, .int j b => decide (k = j) && decide (a = b)
  | .sint k a, .sint j b => decide (k = j) && decide (a = b)
  | .str n a, .str m b => Nat.beq n m && Nat.beq a b
  | .nilptr, .nilptr => true
  | .ptr a b, .ptr c d => Nat.beq a c && Nat.beq b d
  | .nilslice, .nilslice => true
  | .slice a b c d x e, .slice a' b' c' d' x' e' => Nat.beq a a' && Nat.beq b b' && Nat.beq c c' && Nat.beq d d' && x == x' && Nat.beq e e'
  | .nilmap, .nilmap => true
  | .map a, .map b => Nat.beq a b
  | .func f a b, .func g c d => decide (f = g) && AV.beqs a c && AV.beqs b d
  | .nilFunc, .nilFunc => true
  | .iface t v, .iface u w => Nat.beq t u && AV.beq v w
  | .nilIface, .nilIface => true
  | .agg a, .agg b => AV.beqs a b
  | .tuple a, .tuple b => AV.beqs a b
  | _, _ => false
noncomputable def AV.beqs : List AV → List AV → Bool
  | [], [] => true
  | a :: l, b :: m => AV.beq a b && AV.beqs l m
  | _, _ => false
end
mutual
noncomputable def AV.flat : AV → Bool
  | .ptr .. | .slice .. | .map _ | .func .. => false
  | .iface _ v => v.flat
  | .agg l | .tuple l => AV.flats l
  | _ => true
noncomputable def AV.flats : List AV → Bool
  | [] => true
  | a :: l => a.flat && AV.flats l
end
noncomputable def half (k : IntKind) : Nat := match k with
  | .i8 => 128 | .i16 => 32768 | .i32 => 2147483648 | .i64 => 9223372036854775808 | .u8 => 256 | .u16 => 65536 | .u32 => 4294967296 | .u64 => 18446744073709551616
noncomputable def fwrap (k : IntKind) (n : Int) : Int :=
  match n with
  | .ofNat a => match Nat.blt a (half k) with
    | true => .ofNat a
    | false => k.wrap (.ofNat a)
  | .negSucc a => match Nat.blt a (half k) && k.signed with
    | true => .negSucc a
    | false => k.wrap (.negSucc a)
noncomputable def ieqN (a : Nat) : Int → Bool
  | .ofNat b => Nat.beq a b
  | .negSucc _ => false
noncomputable def ieqS (a : Nat) : Int → Bool
  | .ofNat _ => false
  | .negSucc b => Nat.beq a b
noncomputable def ieq : Int → Int → Bool
  | .ofNat a => ieqN a
  | .negSucc a => ieqS a
noncomputable def iltN (a : Nat) : Int → Bool
  | .ofNat b => Nat.blt a b
  | .negSucc _ => false
noncomputable def iltS (a : Nat) : Int → Bool
  | .ofNat _ => true
  | .negSucc b => Nat.blt b a
noncomputable def ilt : Int → Int → Bool
  | .ofNat a => iltN a
  | .negSucc a => iltS a
noncomputable def forceN {β : Type} (n : Nat) (K : Nat → β) : β := match n with
  | 0 => K 0
  | n + 1 => K (Nat.succ n)
noncomputable def forceI {β : Type} (n : Int) (K : Int → β) : β := match n with
  | .ofNat a => forceN a fun a => K (.ofNat a)
  | .negSucc a => forceN a fun a => K (.negSucc a)
noncomputable def binI (op : BinOp) (k : IntKind) (a b : Int) : Option Int :=
  match op with
  | .add => some (k.wrap (a + b))
  | .sub => some (k.wrap (a - b))
  | .mul => some (k.wrap (a * b))
  | .quo => if b = 0 then none else some (k.wrap (a.tdiv b))
  | .rem => if b = 0 then none else some (a.tmod b)
  | .and => some (k.wrap (BitVec.ofInt k.bits a &&& BitVec.ofInt k.bits b).toNat)
  | .or => some (k.wrap (BitVec.ofInt k.bits a ||| BitVec.ofInt k.bits b).toNat)
  | .xor => some (k.wrap (BitVec.ofInt k.bits a ^^^ BitVec.ofInt k.bits b).toNat)
  | .andNot => some (k.wrap (BitVec.ofInt k.bits a &&& ~~~ BitVec.ofInt k.bits b).toNat)
  | .shl => if b < 0 then none else some (k.wrap (a * 2 ^ (Nat.min b.toNat k.bits)))
  | .shr => if b < 0 then none else some (a.fdiv (2 ^ (Nat.min b.toNat k.bits)))
  | _ => none
noncomputable def fAdd (k : IntKind) (a b : Int) : Option Int := some (fwrap k (Int.add a b))
noncomputable def fSub (k : IntKind) (a b : Int) : Option Int := some (fwrap k (Int.sub a b))
noncomputable def fMul (k : IntKind) (a b : Int) : Option Int := some (fwrap k (Int.mul a b))
noncomputable def fQuo (k : IntKind) (a b : Int) : Option Int := match a, b with
  | .ofNat a, .ofNat (b + 1) => some (fwrap k (.ofNat (Nat.div a (Nat.succ b))))
  | a, b => binI .quo k a b
noncomputable def fRem (k : IntKind) (a b : Int) : Option Int := match a, b with
  | .ofNat a, .ofNat (b + 1) => some (.ofNat (Nat.mod a (Nat.succ b)))
  | a, b => binI .rem k a b
noncomputable def fBits (op : BinOp) (f : Nat → Nat → Nat) (k : IntKind) (a b : Int) : Option Int := match a, b with
  | .ofNat a, .ofNat b => match Nat.blt a (half k) && Nat.blt b (half k) with
    | true => some (.ofNat (f a b))
    | false => binI op k (.ofNat a) (.ofNat b)
  | a, b => binI op k a b
noncomputable def fShl (k : IntKind) (a b : Int) : Option Int := match b with
  | .ofNat b => match Nat.blt b k.bits with
    | true => some (fwrap k (Int.mul a (.ofNat (Nat.pow 2 b))))
    | false => binI .shl k a (.ofNat b)
  | b => binI .shl k a b
noncomputable def fShr (k : IntKind) (a b : Int) : Option Int := match a, b with
  | .ofNat a, .ofNat b => match Nat.blt b k.bits with
    | true => some (.ofNat (Nat.shiftRight a b))
    | false => binI .shr k (.ofNat a) (.ofNat b)
  | a, b => binI .shr k a b
noncomputable def fNone (_ : IntKind) (_ _ : Int) : Option Int := none
noncomputable def fbin (op : BinOp) : IntKind → Int → Int → Option Int :=
  match op with
  | .add => fAdd
  | .sub => fSub
  | .mul => fMul
  | .quo => fQuo
  | .rem => fRem
  | .and => fBits .and Nat.land
  | .or => fBits .or Nat.lor
  | .xor => fBits .xor Nat.xor
  | .andNot => binI .andNot
  | .shl => fShl
  | .shr => fShr
  | _ => fNone
noncomputable def cEq (a b : Int) : Option Bool := some (ieq a b)
noncomputable def cNe (a b : Int) : Option Bool := some (!ieq a b)
noncomputable def cLt (a b : Int) : Option Bool := some (ilt a b)
noncomputable def cLe (a b : Int) : Option Bool := some (!ilt b a)
noncomputable def cGt (a b : Int) : Option Bool := some (ilt b a)
noncomputable def cGe (a b : Int) : Option Bool := some (!ilt a b)
noncomputable def cNone (_ _ : Int) : Option Bool := none
noncomputable def cmpI (op : BinOp) : Int → Int → Option Bool :=
  match op with
  | .eql => cEq
  | .neq => cNe
  | .lss => cLt
  | .leq => cLe
  | .gtr => cGt
  | .geq => cGe
  | _ => cNone
noncomputable def opKind : BinOp → Nat
  | .eql | .neq | .lss | .leq | .gtr | .geq => 0
  | .shl | .shr => 1
  | _ => 2
noncomputable def symOp (op : BinOp) (b : SE) : Bool :=
  match op with
  | .add | .sub | .mul | .and | .or | .xor | .andNot => true
  | .quo | .rem => match b with | .lit n => !ieq n 0 | _ => false
  | .shl | .shr => match b with | .lit n => !ilt n 0 | _ => false
  | _ => false
noncomputable def byteAt (bits i : Nat) : Nat := Nat.mod (Nat.shiftRight bits (Nat.mul 8 i)) 256
noncomputable def unpack : Nat → Nat → List UInt8
  | 0, _ => []
  | n + 1, b => UInt8.ofNat (b % 256) :: unpack n (b / 256)
end Go.Ab

namespace Go.Ab
abbrev CallV := AFn → List AV → St → M (AV × St)
abbrev OpF := T AV → St → CallV → M (AV × St)
noncomputable def evA (tm : T AV) : CA → AV
  | .t t => match tm.get t with
    | some v => v
    | none => .any
  | .v v => v
noncomputable def evAs (tm : T AV) : List CA → List AV
  | [] => []
  | x :: l => evA tm x :: evAs tm l
noncomputable def orUndef {β : Type} (K : AV → β) : Option AV → β
  | some v => K v
  | none => K .any
noncomputable def evAK {β : Type} (x : CA) (tm : T AV) (K : AV → β) : β :=
  match x with
  | .t t => orUndef K (tm.get t)
  | .v v => K v
noncomputable def evAsK {β : Type} (l : List CA) (tm : T AV) (K : List AV → β) : β :=
  match l with
  | [] => K []
  | x :: l => evAK x tm fun v => evAsK l tm fun vs => K (v :: vs)
noncomputable def St.newK {β : Type} (st : St) (o : AObj) (K : Nat → St → β) : β :=
  match st with
  | ⟨h, n, lo, sc, tr⟩ => h.setK n o fun h => forceN (Nat.add n 1) fun n' => K n ⟨h, n', lo, sc, tr⟩
noncomputable def St.new (st : St) (o : AObj) : Nat × St :=
  (st.next, { st with heap := st.heap.set st.next o, next := st.next + 1 })
noncomputable def lowered (low id : Nat) : Nat := match Nat.ble low id with
  | true => low
  | false => id
noncomputable def St.putK {β : Type} (st : St) (id : Nat) (o : AObj) (K : St → β) : β :=
  match st with
  | ⟨h, n, lo, sc, tr⟩ => h.setK id o fun h => match Nat.ble lo id with
    | true => K ⟨h, n, lo, sc, tr⟩
    | false => K ⟨h, n, id, sc, tr⟩
noncomputable def St.put (st : St) (id : Nat) (o : AObj) : St :=
  { st with heap := st.heap.set id o, low := lowered st.low id }
noncomputable def St.kill (st : St) (id : Nat) : St :=
  match st with
  | ⟨h, n, lo, sc, tr⟩ => ⟨h.del id, n, lowered lo id, sc, tr⟩
noncomputable def decK {β : Type} (v : AV) (st : St) (K : Bool → St → M β) : M β :=
  match v with
  | .bool b => K b st
  | .sbool s => match st with
    | ⟨h, n, lo, d :: sc, tr⟩ => K d ⟨h, n, lo, sc, (s, d) :: tr⟩
    | _ => .error "the script is over"
  | _ => .error "no bool"
noncomputable def err (s : String) : M (AV × St) := .error s
noncomputable def retI (k : IntKind) (st : St) : Option Int → M (AV × St)
  | some r => forceI r fun r => .ok (.int k r, st)
  | none => err "numbers"
noncomputable def retB (st : St) : Option Bool → M (AV × St)
  | some true => .ok (.bool true, st)
  | some false => .ok (.bool false, st)
  | none => err "test"
noncomputable def strAdd (n a m b : Nat) (st : St) : M (AV × St) :=
  match Nat.blt (Nat.add n m) 9223372036854775808 with
  | true => forceN (Nat.add n m) fun l => forceN (Nat.add a (Nat.shiftLeft b (Nat.mul 8 n))) fun x => .ok (.str l x, st)
  | false => err "long string"
noncomputable def strLess : Nat → Nat → Nat → Nat → Nat → Bool
  | 0, _, _, _, _ => false
  | f + 1, n, a, m, b =>
    match m with
    | 0 => false
    | m + 1 => match n with
      | 0 => true
      | n + 1 => match Nat.blt (Nat.mod a 256) (Nat.mod b 256) with
        | true => true
        | false => match Nat.beq (Nat.mod a 256) (Nat.mod b 256) with
          | true => strLess f n (Nat.div a 256) m (Nat.div b 256)
          | false => false
noncomputable def evStr (op : BinOp) (n a m b : Nat) (st : St) : M (AV × St) :=
  match op with
  | .add => strAdd n a m b st
  | .eql => retB st (some (Nat.beq n m && Nat.beq a b))
  | .neq => retB st (some (!(Nat.beq n m && Nat.beq a b)))
  | .lss => retB st (some (strLess (Nat.succ n) n a m b))
  | .gtr => retB st (some (strLess (Nat.succ m) m b n a))
  | .leq => retB st (some (!strLess (Nat.succ m) m b n a))
  | .geq => retB st (some (!strLess (Nat.succ n) n a m b))
  | _ => err "string operation"
noncomputable def symBin (op : BinOp) (k : IntKind) (a : SE) (j : IntKind) (b : SE) (st : St) : M (AV × St) :=
  match opKind op with
  | 0 => match keq k j with
    | true => .ok (.sbool (.cmp op a b), st)
    | false => err "kinds"
  | 1 => match symOp op b with
    | true => .ok (.sint k (.bin op k a b), st)
    | false => err "symbolic shift"
  | _ => match symOp op b && keq k j with
    | true => .ok (.sint k (.bin op k a b), st)
    | false => err "symbolic operation"
noncomputable def binInt (op : BinOp) (k : IntKind) (a : Int) (y : AV) (st : St) : M (AV × St) :=
  match y with
  | .int j b => match opKind op with
    | 0 => match keq k j with
      | true => retB st (cmpI op a b)
      | false => err "kinds"
    | 1 => retI k st (fbin op k a b)
    | _ => match keq k j with
      | true => retI k st (fbin op k a b)
      | false => err "kinds"
  | .sint j b => symBin op k (.lit a) j b st
  | _ => err "bin: operands"
noncomputable def binSym (op : BinOp) (k : IntKind) (a : SE) (y : AV) (st : St) : M (AV × St) :=
  match y with
  | .int j b => symBin op k a j (.lit b) st
  | .sint j b => symBin op k a j b st
  | _ => err "bin: operands"
noncomputable def binStr (op : BinOp) (n a : Nat) (y : AV) (st : St) : M (AV × St) :=
  match y with
  | .str m b => evStr op n a m b st
  | _ => err "bin: operands"
noncomputable def evBin (op : BinOp) (x y : AV) (st : St) : M (AV × St) :=
  match x with
  | .int k a => binInt op k a y st
  | .sint k a => binSym op k a y st
  | .str n a => binStr op n a y st
  | _ => err "bin: operands"
noncomputable def eqInt (k : IntKind) (a : Int) : AV → M AV
  | .int j b => match keq k j with
    | true => .ok (.bool (ieq a b))
    | false => .error "kinds"
  | .sint j b => match keq k j with
    | true => .ok (.sbool (.cmp .eql (.lit a) b))
    | false => .error "kinds"
  | _ => .error "eql"
noncomputable def eqSint (k : IntKind) (a : SE) : AV → M AV
  | .int j b => match keq k j with
    | true => .ok (.sbool (.cmp .eql a (.lit b)))
    | false => .error "kinds"
  | .sint j b => match keq k j with
    | true => .ok (.sbool (.cmp .eql a b))
    | false => .error "kinds"
  | _ => .error "eql"
noncomputable def eqStr (n a : Nat) : AV → M AV
  | .str m b => .ok (.bool (Nat.beq n m && Nat.beq a b))
  | _ => .error "eql"
noncomputable def eqBool (a : Bool) : AV → M AV
  | .bool b => .ok (.bool (a == b))
  | _ => .error "eql"
noncomputable def eqNilptr : AV → M AV
  | .nilptr => .ok (.bool true)
  | .ptr _ _ => .ok (.bool false)
  | _ => .error "eql"
noncomputable def eqPtr (a b : Nat) : AV → M AV
  | .nilptr => .ok (.bool false)
  | .ptr c d => match Nat.beq a c && Nat.beq b d with
    | true => .ok (.bool true)
    | false => .error "two places"
  | _ => .error "eql"
noncomputable def eqNilIface : AV → M AV
  | .nilIface => .ok (.bool true)
  | .iface _ _ => .ok (.bool false)
  | _ => .error "eql"
noncomputable def eqIface : AV → M AV
  | .nilIface => .ok (.bool false)
  | _ => .error "eql: two interface values"
noncomputable def eqNilSl : AV → M AV
  | .nilslice => .ok (.bool true)
  | .slice .. => .ok (.bool false)
  | _ => .error "eql"
noncomputable def eqSl : AV → M AV
  | .nilslice => .ok (.bool false)
  | _ => .error "eql"
noncomputable def eqNilMap : AV → M AV
  | .nilmap => .ok (.bool true)
  | .map _ => .ok (.bool false)
  | _ => .error "eql"
noncomputable def eqMap : AV → M AV
  | .nilmap => .ok (.bool false)
  | _ => .error "eql"
noncomputable def eqNilF : AV → M AV
  | .nilFunc => .ok (.bool true)
  | .func .. => .ok (.bool false)
  | _ => .error "eql"
noncomputable def eqF : AV → M AV
  | .nilFunc => .ok (.bool false)
  | _ => .error "eql"
noncomputable def eqB : AV → AV → M AV
  | .bool a => eqBool a
  | _ => fun _ => .error "eql"
noncomputable def eqI : AV → AV → M AV
  | .int k a => eqInt k a
  | .sint k a => eqSint k a
  | _ => fun _ => .error "eql"
noncomputable def eqS : AV → AV → M AV
  | .str n a => eqStr n a
  | _ => fun _ => .error "eql"
noncomputable def eqP : AV → AV → M AV
  | .nilptr => eqNilptr
  | .ptr a b => eqPtr a b
  | _ => fun _ => .error "eql"
noncomputable def eqIf : AV → AV → M AV
  | .nilIface => eqNilIface
  | .iface _ _ => eqIface
  | _ => fun _ => .error "eql"
noncomputable def eqSlc : AV → AV → M AV
  | .nilslice => eqNilSl
  | .slice .. => eqSl
  | _ => fun _ => .error "eql"
noncomputable def eqMp : AV → AV → M AV
  | .nilmap => eqNilMap
  | .map _ => eqMap
  | _ => fun _ => .error "eql"
noncomputable def eqFn : AV → AV → M AV
  | .nilFunc => eqNilF
  | .func .. => eqF
  | _ => fun _ => .error "eql"
noncomputable def eqLeaf (k : Nat) : AV → AV → M AV :=
  match k with
  | 0 => eqB
  | 1 => eqI
  | 2 => eqS
  | 3 => eqP
  | 4 => eqSlc
  | 5 => eqMp
  | 6 => eqFn
  | _ => eqIf
noncomputable def takeCells : Nat → List AV → Option (List AV)
  | 0, _ => some []
  | n + 1, x :: l => match takeCells n l with
    | some r => some (x :: r)
    | none => none
  | _ + 1, [] => none
noncomputable def dropL {α : Type} : Nat → List α → List α
  | 0, l => l
  | n + 1, l => match l with
    | [] => []
    | _ :: l => dropL n l
noncomputable def partOf (cs : List AV) (off : Nat) (n : Option Nat) : Option AV :=
  match n with
  | none => match dropL off cs with
    | v :: _ => some v
    | [] => none
  | some n => match takeCells n (dropL off cs) with
    | some l => some (.agg l)
    | none => none
mutual
noncomputable def evEq : Plan → AV → AV → M AV
  | .leaf k, x, y => eqLeaf k x y
  | .fields l, .agg xs, .agg ys => evEqs l xs ys
  | .fields _, _, _ => .error "eql: agg"
noncomputable def evEqs : List (Nat × Option Nat × Plan) → List AV → List AV → M AV
  | [], _, _ => .ok (.bool true)
  | (off, n, p) :: l, xs, ys =>
    match partOf xs off n, partOf ys off n with
    | some x, some y => match evEq p x y with
      | .ok (.bool true) => evEqs l xs ys
      | .ok (.bool false) => .ok (.bool false)
      | .ok _ => .error "eql: symbolic part"
      | .error e => .error e
    | _, _ => .error "eql: part"
end
noncomputable def notA (st : St) : AV → M (AV × St)
  | .bool true => .ok (.bool false, st)
  | .bool false => .ok (.bool true, st)
  | .sbool s => .ok (.sbool (.not s), st)
  | _ => err "not"
noncomputable def retEq (neg : Bool) (st : St) : M AV → M (AV × St)
  | .ok (.bool true) => match neg with
    | true => .ok (.bool false, st)
    | false => .ok (.bool true, st)
  | .ok (.bool false) => match neg with
    | true => .ok (.bool true, st)
    | false => .ok (.bool false, st)
  | .ok (.sbool s) => match neg with
    | true => .ok (.sbool (.not s), st)
    | false => .ok (.sbool s, st)
  | .ok _ => err "eql"
  | .error e => .error e
noncomputable def setList {α : Type} : List α → Nat → α → List α
  | [], _, _ => []
  | x :: l, i, v => match i with
    | 0 => v :: l
    | n + 1 => x :: setList l n v
noncomputable def layCells (cs : List AV) (off : Nat) : List AV → List AV
  | [] => cs
  | v :: l => layCells (setList cs off v) (off + 1) l
noncomputable def lenL {α : Type} : List α → Nat
  | [] => 0
  | _ :: l => Nat.succ (lenL l)
noncomputable def fillParts (tm : T AV) (cs : List AV) : List (Nat × Nat × CA) → Option (List AV)
  | [] => some cs
  | (off, size, x) :: l =>
    match Nat.beq (lenL (evA tm x).cells) size && Nat.ble (off + size) (lenL cs) with
    | true => fillParts tm (layCells cs off (evA tm x).cells) l
    | false => none
noncomputable def repL (zero : List AV) : Nat → List AV
  | 0 => []
  | n + 1 => zero ++ repL zero n
noncomputable def bound (x : AV) (y : Nat) : Option Nat :=
  match x with
  | .int _ (.ofNat n) => match Nat.ble n y with
    | true => some n
    | false => none
  | _ => none
noncomputable def optB (x : Option CA) (tm : T AV) (y d : Nat) : Option Nat :=
  match x with
  | some x => bound (evA tm x) y
  | none => some d
noncomputable def loadFrom (cs : T AV) (off : Nat) : Nat → Option (List AV)
  | 0 => some []
  | n + 1 => match cs.get off with
    | some v => match loadFrom cs (Nat.succ off) n with
      | some l => some (v :: l)
      | none => none
    | none => none
noncomputable def AV.one : AV → Bool
  | .agg _ | .tuple _ | .any => false
  | _ => true
noncomputable def allOne : List AV → Bool
  | [] => true
  | v :: l => match v.one with
    | true => allOne l
    | false => false
noncomputable def storeFrom (cs : T AV) (off : Nat) : List AV → Option (T AV)
  | [] => some cs
  | v :: l => match v.one with
    | false => none
    | true => match cs.get off with
      | some _ => cs.setK off v fun cs => storeFrom cs (Nat.succ off) l
      | none => none
noncomputable def cellsOf (h : T AObj) (id : Nat) : Option (Option Nat × T AV × Nat) :=
  match h.get id with
  | some (.cells e cs fz) => some (e, cs, fz)
  | _ => none
noncomputable def load1At (h : T AObj) (id off : Nat) : Option AV :=
  match h.get id with
  | some (.cells _ cs _) => cs.get off
  | _ => none
noncomputable def loadNAt (h : T AObj) (id off n : Nat) : Option AV :=
  match h.get id with
  | some (.cells _ cs _) => match loadFrom cs off n with
    | some l => some (.agg l)
    | none => none
  | _ => none
noncomputable def loadAt (h : T AObj) (p : AV) (n : Option Nat) : Option AV :=
  match p with
  | .ptr id off => match n with
    | none => load1At h id off
    | some n => loadNAt h id off n
  | _ => none
noncomputable def retL (st : St) : Option AV → M (AV × St)
  | some v => .ok (v, st)
  | none => err "load"
noncomputable def sameKey (x y : AV) : Option Bool :=
  match x with
  | .int k a => match y with
    | .int j b => match keq k j with
      | true => some (ieq a b)
      | false => none
    | _ => none
  | .str n a => match y with
    | .str m b => some (Nat.beq n m && Nat.beq a b)
    | _ => none
  | _ => none
noncomputable def keyIs (s : Bool) (k : AV) : Bool := match s with
  | true => match k with
    | .str _ _ => true
    | _ => false
  | false => match k with
    | .int _ _ => true
    | _ => false
noncomputable def findKey (k : AV) : List (AV × AV × Nat) → Nat → Option (Option (Nat × AV))
  | [], _ => match k with
    | .int _ _ | .str _ _ => some none
    | _ => none
  | (x, v, _) :: l, i => match sameKey k x with
    | some true => some (some (i, v))
    | some false => findKey k l (i + 1)
    | none => none
noncomputable def setEntry : List (AV × AV × Nat) → Nat → AV → AV → List (AV × AV × Nat)
  | [], _, _, _ => []
  | (x, w, b) :: l, i, k, v => match i with
    | 0 => (k, v, b) :: l
    | n + 1 => (x, w, b) :: setEntry l n k v
noncomputable def delEntry : List (AV × AV × Nat) → Nat → List (AV × AV × Nat)
  | [], _ => []
  | e :: l, i => match i with
    | 0 => l
    | n + 1 => e :: delEntry l n
noncomputable def snoc {α : Type} : List α → α → List α
  | [], x => [x]
  | y :: l, x => y :: snoc l x
noncomputable def packFrom (cs : T AV) (off sh : Nat) (acc : Nat) : Nat → Option Nat
  | 0 => some acc
  | n + 1 => match cs.get off with
    | some (.int .u8 (.ofNat b)) => match Nat.blt b 256 with
      | true => forceN (Nat.add acc (Nat.shiftLeft b sh)) fun acc => packFrom cs (Nat.succ off) (Nat.add sh 8) acc n
      | false => none
    | _ => none
noncomputable def bytesL (bits : Nat) : Nat → List AV
  | 0 => []
  | n + 1 => .int .u8 (.ofNat (Nat.mod bits 256)) :: bytesL (Nat.shiftRight bits 8) n
noncomputable def srcCells (h : T AObj) (esz : Nat) : AV → Option (Nat × List AV)
  | .nilslice => some (0, [])
  | .slice id off n _ _ e => match n with
    | 0 => some (0, [])
    | _ => match Nat.beq e esz with
      | true => match cellsOf h id with
        | some (_, cs, _) => match loadFrom cs off (Nat.mul n esz) with
          | some l => some (n, l)
          | none => none
        | none => none
      | false => none
  | .str n b => match Nat.beq esz 1 with
    | true => some (n, bytesL b n)
    | false => none
  | _ => none
noncomputable def elemJoin (e : Option Nat) (elem off : Nat) : Option Nat := match e with
  | some x => match Nat.beq x elem && Nat.beq off 0 with
    | true => some elem
    | false => none
  | none => none
noncomputable def opMv (x : CA) : OpF := fun tm st _ => evAK x tm fun v => .ok (v, st)
noncomputable def opPick (c a b : CA) : OpF := fun tm st _ => evAK c tm fun c => decK c st fun d st => match d with
  | true => evAK a tm fun v => .ok (v, st)
  | false => evAK b tm fun v => .ok (v, st)
noncomputable def opNewc (elem : Nat) (cells : List AV) : OpF := fun _ st _ => T.leaf.ofListK 0 cells fun t => st.newK (.cells (some elem) t 0) fun id st => .ok (.ptr id 0, st)
noncomputable def opBox (elem : Nat) (x : CA) : OpF := fun tm st _ => evAK x tm fun v => T.leaf.ofListK 0 v.cells fun t => st.newK (.cells (some elem) t 0) fun id st => .ok (.ptr id 0, st)
noncomputable def opBuild (zero : List AV) (parts : List (Nat × Nat × CA)) : OpF := fun tm st _ => match fillParts tm zero parts with
  | some cs => .ok (.agg cs, st)
  | none => err "build"
noncomputable def opBuildSlice (elem esz len : Nat) (zero : List AV) (parts : List (Nat × Nat × CA)) : OpF := fun tm st _ => match fillParts tm (repL zero len) parts with
  | some cs => match Nat.ble (len * esz) 16777216 with
    | true => T.leaf.ofListK 0 cs fun t => st.newK (.cells (some elem) t 0) fun id st => .ok (.slice id 0 len len true esz, st)
    | false => err "buildSlice"
  | none => err "buildSlice"
noncomputable def opLoad1 (x : CA) : OpF := fun tm st _ => evAK x tm fun p => retL st (loadAt st.heap p none)
noncomputable def opLoadN (n : Nat) (x : CA) : OpF := fun tm st _ => evAK x tm fun p => retL st (loadAt st.heap p (some n))
noncomputable def storeAt (n : Nat) (id off : Nat) (v : AV) (st : St) : M (AV × St) :=
  match cellsOf st.heap id with
  | some (e, cs, fz) => match Nat.beq (lenL v.cells) n && Nat.ble fz off with
    | true => match storeFrom cs off v.cells with
      | some cs => st.putK id (.cells e cs fz) fun st => .ok (undef, st)
      | none => err "store: no cell"
    | false => err "store: size"
  | none => err "store: no such object"
noncomputable def opStore (n : Nat) (a x : CA) : OpF := fun tm st _ => evAK a tm fun p => match p with
  | .ptr id off => evAK x tm fun v => storeAt n id off v st
  | _ => err "store: no place"
noncomputable def opNilCheck (x : CA) : OpF := fun tm st _ => evAK x tm fun v => match v with
  | .ptr a b => .ok (.ptr a b, st)
  | .func f a b => .ok (.func f a b, st)
  | .iface t v => .ok (.iface t v, st)
  | _ => err "nil"
noncomputable def opBin (op : BinOp) (x y : CA) : OpF := fun tm st _ => evAK x tm fun x => evAK y tm fun y => evBin op x y st
noncomputable def opEql (neg : Bool) (p : Plan) (x y : CA) : OpF := fun tm st _ => evAK x tm fun x => evAK y tm fun y => retEq neg st (evEq p x y)
noncomputable def opUn (op : UnOp) (x : CA) : OpF := fun tm st _ => evAK x tm fun v => match op with
  | .not => notA st v
  | .neg => match v with
    | .int k n => retI k st (fSub k 0 n)
    | .sint k e => .ok (.sint k (.bin .sub k (.lit 0) e), st)
    | _ => err "neg"
  | .xor => match v with
    | .int k n => retI k st (binI .xor k (if k.signed then -1 else k.max) n)
    | _ => err "xor"
  | .plus => err "plus"
noncomputable def opConvInt (k : IntKind) (x : CA) : OpF := fun tm st _ => evAK x tm fun v => match v with
  | .int _ n => retI k st (some (fwrap k n))
  | .sint _ e => .ok (.sint k (.conv k e), st)
  | _ => err "conv"
noncomputable def opSame (x : CA) : OpF := fun tm st _ => evAK x tm fun v => match v with
  | .str n b => .ok (.str n b, st)
  | _ => err "same"
noncomputable def evStrOfBytes (v : AV) (st : St) : M (AV × St) := match v with
  | .nilslice => .ok (.str 0 0, st)
  | .slice id off n _ _ _ => match cellsOf st.heap id with
    | some (_, cs, _) => match packFrom cs off 0 0 n with
      | some b => .ok (.str n b, st)
      | none => err "string: cells"
    | none => err "string: no such object"
  | _ => err "string"
noncomputable def opStrOfBytes (x : CA) : OpF := fun tm st _ => evAK x tm fun v => evStrOfBytes v st
noncomputable def opBytesOfStr (elem : Nat) (x : CA) : OpF := fun tm st _ => evAK x tm fun v => match v with
  | .str n b => match Nat.ble n 70368744177664 with
    | true => T.leaf.ofListK 0 (bytesL b n) fun t => st.newK (.cells none t 0) fun id st => .ok (.slice id 0 n n false 1, st)
    | false => err "bytes"
  | _ => err "bytes"
noncomputable def opStrOfInt (x : CA) : OpF := fun tm st _ => evAK x tm fun v => match v with
  | .int _ (.ofNat n) => match Nat.blt n 128 with
    | true => .ok (.str 1 n, st)
    | false => err "rune"
  | _ => err "rune"
noncomputable def opMkIface (t : Nat) (x : CA) : OpF := fun tm st _ => evAK x tm fun v => .ok (.iface t v, st)
noncomputable def opMkFunc (f : Nat) (a b : List CA) : OpF := fun tm st _ => evAsK a tm fun a => evAsK b tm fun b => .ok (.func (.func f) a b, st)
noncomputable def opMkMap : OpF := fun _ st _ => st.newK (.map [] 0) fun id st => .ok (.map id, st)
noncomputable def opMkSlice (elem esz bytes : Nat) (zero : List AV) (len cap : CA) : OpF := fun tm st _ => evAK len tm fun len => evAK cap tm fun cap => match len with
  | .int _ (.ofNat l) => match cap with
    | .int _ (.ofNat c) => match Nat.ble l c && Nat.ble (c * bytes) 70368744177664 && Nat.blt c 9223372036854775808 with
      | true => T.leaf.ofListK 0 (repL zero c) fun t => st.newK (.cells (some elem) t 0) fun id st => .ok (.slice id 0 l c true esz, st)
      | false => err "make"
    | _ => err "make"
  | _ => err "make"
noncomputable def opSliceStr (x : CA) (lo hi : Option CA) : OpF := fun tm st _ => evAK x tm fun v => match v with
  | .str n b => match optB hi tm n n with
    | some h => match optB lo tm h 0 with
      | some l => forceN (Nat.sub h l) fun m => forceN (Nat.mod (Nat.shiftRight b (Nat.mul 8 l)) (Nat.pow 2 (Nat.mul 8 m))) fun x => .ok (.str m x, st)
      | none => err "slice lo"
    | none => err "slice hi"
  | _ => err "slice str"
noncomputable def sliceOf (id off len cap : Nat) (ex : Bool) (esz : Nat) (tm : T AV) (lo hi : Option CA) (st : St) : M (AV × St) :=
  match optB hi tm cap len with
  | some h => match optB lo tm h 0 with
    | some l => forceN (Nat.add off (Nat.mul l esz)) fun o => forceN (Nat.sub h l) fun n => forceN (Nat.sub cap l) fun c => .ok (.slice id o n c ex esz, st)
    | none => err "slice lo"
  | none => err "slice hi"
noncomputable def sliceNil (tm : T AV) (lo hi mx : Option CA) (st : St) : M (AV × St) :=
  match optB mx tm 0 0 with
  | some _ => match optB hi tm 0 0 with
    | some _ => match optB lo tm 0 0 with
      | some _ => .ok (.nilslice, st)
      | none => err "slice nil"
    | none => err "slice nil"
  | none => err "slice nil"
noncomputable def opSliceSl (esz : Nat) (x : CA) (lo hi mx : Option CA) : OpF := fun tm st _ => evAK x tm fun v => match v with
  | .nilslice => match mx with
    | none => sliceNil tm lo hi mx st
    | some _ => match hi with
      | none => err "slice max"
      | some _ => sliceNil tm lo hi mx st
  | .slice id off len cap ex e => match Nat.beq e esz with
    | false => err "esz"
    | true => match mx with
      | none => sliceOf id off len cap ex esz tm lo hi st
      | some m => match hi with
        | none => err "slice max"
        | some _ => match bound (evA tm m) cap with
          | some m => sliceOf id off len m true esz tm lo hi st
          | none => err "slice max"
  | _ => err "slice sl"
noncomputable def opSliceArr (n esz : Nat) (x : CA) (lo hi mx : Option CA) : OpF := fun tm st _ => evAK x tm fun v => match v with
  | .ptr id off => match mx with
    | none => match Nat.mul n esz with
      | 0 => err "slice arr: empty"
      | m + 1 => match load1At st.heap id (Nat.add off m) with
        | some _ => sliceOf id off n n true esz tm lo hi st
        | none => err "slice arr: no cell"
    | some _ => err "slice arr"
  | _ => err "slice arr"
noncomputable def opFieldAddr (off : Nat) (x : CA) : OpF := fun tm st _ => evAK x tm fun v => match v with
  | .ptr id o => forceN (Nat.add o off) fun o => .ok (.ptr id o, st)
  | _ => err "fieldAddr"
noncomputable def opField (off : Nat) (n : Option Nat) (x : CA) : OpF := fun tm st _ => evAK x tm fun v => match v with
  | .agg cs => retL st (partOf cs off n)
  | _ => err "field"
noncomputable def opIdxAddrArr (len esz : Nat) (x i : CA) : OpF := fun tm st _ => evAK x tm fun v => match v with
  | .ptr id o => evAK i tm fun i => match i with
    | .int _ (.ofNat i) => match Nat.blt i len with
      | true => forceN (Nat.add o (Nat.mul i esz)) fun o => .ok (.ptr id o, st)
      | false => err "index"
    | _ => err "index"
  | _ => err "index"
noncomputable def opIdxAddrSl (esz : Nat) (x i : CA) : OpF := fun tm st _ => evAK x tm fun v => match v with
  | .slice id o len _ _ e => evAK i tm fun i => match i with
    | .int _ (.ofNat i) => match Nat.blt i len && Nat.beq e esz with
      | true => forceN (Nat.add o (Nat.mul i esz)) fun o => .ok (.ptr id o, st)
      | false => err "index"
    | _ => err "index"
  | _ => err "index"
noncomputable def opIdxArr (len esz : Nat) (n : Option Nat) (x i : CA) : OpF := fun tm st _ => evAK x tm fun v => match v with
  | .agg cs => evAK i tm fun i => match i with
    | .int _ (.ofNat i) => match Nat.blt i len with
      | true => retL st (partOf cs (Nat.mul i esz) n)
      | false => err "index"
    | _ => err "index"
  | _ => err "index"
noncomputable def opIdxStr (x i : CA) : OpF := fun tm st _ => evAK x tm fun v => match v with
  | .str n b => evAK i tm fun i => match i with
    | .int _ (.ofNat i) => match Nat.blt i n with
      | true => forceN (byteAt b i) fun c => .ok (.int .u8 (.ofNat c), st)
      | false => err "index str"
    | _ => err "index str"
  | _ => err "index str"
noncomputable def okOr (ok : Bool) (v : AV) (b : Bool) : AV := match ok with
  | true => .tuple [v, .bool b]
  | false => v
noncomputable def retFind (zero : AV) (ok : Bool) (st : St) : Option (Option (Nat × AV)) → M (AV × St)
  | some (some (_, v)) => .ok (okOr ok v true, st)
  | some none => .ok (okOr ok zero false, st)
  | none => err "lookup: keys"
noncomputable def evLookup (zero : AV) (ok : Bool) (m k : AV) (st : St) : M (AV × St) := match m with
  | .nilmap => retFind zero ok st (findKey k [] 0)
  | .map id => match st.heap.get id with
    | some (.map es _) => retFind zero ok st (findKey k es 0)
    | _ => err "lookup: no such object"
  | _ => err "lookup"
noncomputable def opLookup (s : Bool) (zero : AV) (ok : Bool) (m k : CA) : OpF := fun tm st _ => evAK k tm fun k => evAK m tm fun m => match keyIs s k with
  | true => evLookup zero ok m k st
  | false => err "lookup: kind"
noncomputable def evMapUpd (m k v : AV) (st : St) : M (AV × St) := match m with
  | .map id => match st.heap.get id with
    | some (.map es clock) => match findKey k es 0 with
      | some (some (i, _)) => st.putK id (.map (setEntry es i k v) clock) fun st => .ok (undef, st)
      | some none => st.putK id (.map (snoc es (k, v, clock)) (clock + 1)) fun st => .ok (undef, st)
      | none => err "mapUpd: keys"
    | _ => err "mapUpd: no such object"
  | _ => err "mapUpd"
noncomputable def opMapUpd (s : Bool) (m k v : CA) : OpF := fun tm st _ => evAK m tm fun m => evAK k tm fun k => evAK v tm fun v => match keyIs s k with
  | true => evMapUpd m k v st
  | false => err "mapUpd: kind"
noncomputable def opRange (isStr : Bool) (x : CA) : OpF := fun tm st _ => evAK x tm fun v => match isStr with
  | true => match v with
    | .str n b => st.newK (.strIter n b 0) fun id st => .ok (.ptr id 0, st)
    | _ => err "range"
  | false => match v with
    | .nilmap => st.newK (.mapIter none 0 [] 0) fun id st => .ok (.ptr id 0, st)
    | .map m => match st.heap.get m with
      | some (.map _ clock) => st.newK (.mapIter (some m) clock [] clock) fun id st => .ok (.ptr id 0, st)
      | _ => err "range: no such object"
    | _ => err "range"
noncomputable def nextStr (id n b pos : Nat) (st : St) : M (AV × St) :=
  match Nat.blt pos n with
  | true => forceN (byteAt b pos) fun c => match Nat.blt c 128 with
    | true => forceN (Nat.add pos 1) fun p => st.putK id (.strIter n b p) fun st => .ok (.tuple [.bool true, .int .i64 (.ofNat pos), .int .i32 (.ofNat c)], st)
    | false => err "next: not ascii"
  | false => .ok (.tuple [.bool false], st)
noncomputable def nextMap (id m since : Nat) (seen : List Nat) (last : Nat) (es : List (AV × AV × Nat)) (clock : Nat) (st : St) : M (AV × St) :=
  match es with
  | [] => .ok (.tuple [.bool false], st)
  | [(k, v, b)] => match seen with
    | [] => match Nat.blt b since with
      | true => st.putK id (.mapIter (some m) since [b] clock) fun st => .ok (.tuple [.bool true, k, v], st)
      | false => err "next: new entry"
    | [c] => match Nat.beq b c && Nat.blt b last with
      | true => .ok (.tuple [.bool false], st)
      | false => err "next: another entry"
    | _ => err "next: seen"
  | _ => err "next: an order"
noncomputable def opNext (isStr : Bool) (it : CA) : OpF := fun tm st _ => evAK it tm fun v => match v with
  | .ptr id 0 => match st.heap.get id with
    | some (.strIter n b pos) => match isStr with
      | true => nextStr id n b pos st
      | false => err "next"
    | some (.mapIter m since seen last) => match isStr with
      | true => err "next"
      | false => match m with
        | none => .ok (.tuple [.bool false], st)
        | some m => match st.heap.get m with
          | some (.map es clock) => nextMap id m since seen last es clock st
          | _ => err "next: no such map"
    | _ => err "next: no such iterator"
  | _ => err "next"
noncomputable def opEntry (it : CA) : OpF := fun tm st _ => evAK it tm fun v => match v with
  | .ptr id 0 => match st.heap.get id with
    | some (.mapIter (some m) _ [c] last) => match st.heap.get m with
      | some (.map [(k, v, b)] clock) => match Nat.beq b c && Nat.beq clock last with
        | true => .ok (.tuple [k, v], st)
        | false => err "entry: another one"
      | _ => err "entry: no such map"
    | _ => err "entry: no such iterator"
  | _ => err "entry"
noncomputable def opExtract (i : Nat) (x : CA) : OpF := fun tm st _ => evAK x tm fun v => match v with
  | .tuple vs => match dropL i vs with
    | v :: _ => .ok (v, st)
    | [] => err "extract"
  | _ => err "extract"
noncomputable def opCall (f : Nat) (args : List CA) : OpF := fun tm st call => evAsK args tm fun l => call (.func f) l st
noncomputable def opCallV (f : CA) (args : List CA) : OpF := fun tm st call => evAK f tm fun v => match v with
  | .func fn first captured => evAsK args tm fun l => call fn (first ++ (l ++ captured)) st
  | _ => err "call: no function"
noncomputable def appendNew (elem esz m : Nat) (old vs : List AV) (st : St) : M (AV × St) :=
  T.leaf.ofListK 0 (old ++ vs) fun t => st.newK (.cells (some elem) t 0) fun id st => .ok (.slice id 0 m m false esz, st)
noncomputable def appendTo (elem esz bytes : Nat) (id off n cap : Nat) (ex : Bool) (m : Nat) (vs : List AV) (st : St) : M (AV × St) :=
  match Nat.ble (Nat.mul (Nat.add n m) bytes) 70368744177664 && allOne vs with
  | false => err "append: size"
  | true => match cellsOf st.heap id with
    | none => err "append: no such object"
    | some (oe, cs, fz) => match Nat.ble (Nat.add n m) cap with
      | true => match Nat.ble fz (Nat.add off (Nat.mul n esz)) with
        | true => T.ofListK cs (Nat.add off (Nat.mul n esz)) vs fun cs => st.putK id (.cells oe cs fz) fun st => forceN (Nat.add n m) fun l => .ok (.slice id off l cap ex esz, st)
        | false => err "append: room"
      | false => match loadFrom cs off (Nat.mul n esz) with
        | none => err "append: cells"
        | some old => match ex with
          | true => forceN (Nat.add n m) fun l => appendNew elem esz l old vs st
          | false => match Nat.ble fz (Nat.add off (Nat.mul n esz)) with
            | false => err "append: frozen"
            | true => T.leaf.ofListK 0 (old ++ vs) fun t => (st.kill id).newK (.cells (elemJoin oe elem off) t (Nat.sub fz off)) fun id st => forceN (Nat.add n m) fun l => .ok (.slice id 0 l l false esz, st)
noncomputable def evAppend (elem esz bytes : Nat) (x y : AV) (st : St) : M (AV × St) :=
  match srcCells st.heap esz y with
  | none => err "append: source"
  | some (m, vs) => match x with
    | .nilslice => match m with
      | 0 => .ok (.nilslice, st)
      | _ => match Nat.ble (Nat.mul m bytes) 70368744177664 && Nat.ble 1 esz with
        | true => appendNew elem esz m [] vs st
        | false => err "append: size"
    | .slice id off n cap ex e => match Nat.beq e esz && Nat.ble 1 esz with
      | false => err "append: esz"
      | true => match m with
        | 0 => .ok (.slice id off n cap ex e, st)
        | _ => appendTo elem esz bytes id off n cap ex m vs st
    | _ => err "append: no slice"
noncomputable def opAppend (elem esz bytes : Nat) (x y : CA) : OpF := fun tm st _ => evAK x tm fun x => evAK y tm fun y => evAppend elem esz bytes x y st
noncomputable def copyTo (esz id off k id2 off2 : Nat) (st : St) : M (AV × St) :=
  match cellsOf st.heap id, cellsOf st.heap id2 with
  | some (el, cs, fz), some (_, cs2, _) => match loadFrom cs2 off2 (k * esz) with
    | some vs => match Nat.ble fz off with
      | true => match storeFrom cs off vs with
        | some cs => st.putK id (.cells el cs fz) fun st => .ok (.int .i64 (.ofNat k), st)
        | none => err "copy: cells"
      | false => err "copy: frozen"
    | none => err "copy: source"
  | _, _ => err "copy: no such object"
noncomputable def evCopy (esz : Nat) (x y : AV) (st : St) : M (AV × St) := match x with
  | .slice id off n _ _ e => match y with
    | .slice id2 off2 m _ _ e2 => match Nat.beq e esz && Nat.beq e2 esz with
      | true => forceN (Nat.min m n) fun k => copyTo esz id off k id2 off2 st
      | false => err "copy: esz"
    | .nilslice => .ok (.int .i64 (.ofNat 0), st)
    | _ => err "copy"
  | .nilslice => match y with
    | .slice .. => .ok (.int .i64 (.ofNat 0), st)
    | .nilslice => .ok (.int .i64 (.ofNat 0), st)
    | _ => err "copy"
  | _ => err "copy"
noncomputable def opCopy (esz : Nat) (x y : CA) : OpF := fun tm st _ => evAK x tm fun x => evAK y tm fun y => evCopy esz x y st
noncomputable def evDelete (m k : AV) (st : St) : M (AV × St) := match m with
  | .nilmap => match findKey k [] 0 with
    | some _ => .ok (undef, st)
    | none => err "delete: key"
  | .map id => match st.heap.get id with
    | some (.map es clock) => match findKey k es 0 with
      | some (some (i, _)) => st.putK id (.map (delEntry es i) clock) fun st => .ok (undef, st)
      | some none => st.putK id (.map es clock) fun st => .ok (undef, st)
      | none => err "delete: keys"
    | _ => err "delete: no such object"
  | _ => err "delete"
noncomputable def opDelete (s : Bool) (m k : CA) : OpF := fun tm st _ => evAK m tm fun m => evAK k tm fun k => match keyIs s k with
  | true => evDelete m k st
  | false => err "delete: kind"
noncomputable def evClear (zero : List AV) (v : AV) (st : St) : M (AV × St) := match v with
  | .nilmap => .ok (undef, st)
  | .nilslice => .ok (undef, st)
  | .map id => match st.heap.get id with
    | some (.map _ clock) => st.putK id (.map [] clock) fun st => .ok (undef, st)
    | _ => err "clear: no such object"
  | .slice id off n _ _ e => match n with
    | 0 => .ok (undef, st)
    | _ => match Nat.ble 1 e && Nat.beq (lenL zero) e, cellsOf st.heap id with
      | true, some (el, cs, fz) => match Nat.ble fz off, storeFrom cs off (repL zero n) with
        | true, some cs => st.putK id (.cells el cs fz) fun st => .ok (undef, st)
        | _, _ => err "clear: cells"
      | _, _ => err "clear: no such object"
  | _ => err "clear"
noncomputable def opClear (zero : List AV) (x : CA) : OpF := fun tm st _ => evAK x tm fun v => evClear zero v st
noncomputable def opLenStr (x : CA) : OpF := fun tm st _ => evAK x tm fun v => match v with
  | .str n _ => .ok (.int .i64 (.ofNat n), st)
  | _ => err "len"
noncomputable def opLenSl (x : CA) : OpF := fun tm st _ => evAK x tm fun v => match v with
  | .slice _ _ n _ _ _ => .ok (.int .i64 (.ofNat n), st)
  | .nilslice => .ok (.int .i64 (.ofNat 0), st)
  | _ => err "len"
noncomputable def opLenArr (n : Nat) : OpF := fun _ st _ => .ok (.int .i64 (.ofNat n), st)
noncomputable def evLenMap (v : AV) (st : St) : M (AV × St) := match v with
  | .nilmap => .ok (.int .i64 (.ofNat 0), st)
  | .map id => match st.heap.get id with
    | some (.map es _) => forceN (lenL es) fun n => .ok (.int .i64 (.ofNat n), st)
    | _ => err "len: no such object"
  | _ => err "len"
noncomputable def opLenMap (x : CA) : OpF := fun tm st _ => evAK x tm fun v => evLenMap v st
noncomputable def opCapSl (x : CA) : OpF := fun tm st _ => evAK x tm fun v => match v with
  | .slice _ _ _ c ex _ => match ex with
    | true => .ok (.int .i64 (.ofNat c), st)
    | false => err "cap"
  | .nilslice => .ok (.int .i64 (.ofNat 0), st)
  | _ => err "cap"
noncomputable def minmax (lt : Bool) (st : St) : AV → List AV → M (AV × St)
  | x, [] => .ok (x, st)
  | .int k a, .int j b :: l => match keq k j with
    | true => match (match lt with | true => ilt b a | false => ilt a b) with
      | true => minmax lt st (.int k b) l
      | false => minmax lt st (.int k a) l
    | false => err "kinds"
  | _, _ => err "min, max"
noncomputable def opMin (l : List CA) : OpF := fun tm st _ => evAsK l tm fun l => match l with
  | x :: l => match x with
    | .int k a => minmax true st (.int k a) l
    | _ => err "min"
  | [] => err "min"
noncomputable def opMax (l : List CA) : OpF := fun tm st _ => evAsK l tm fun l => match l with
  | x :: l => match x with
    | .int k a => minmax false st (.int k a) l
    | _ => err "max"
  | [] => err "max"
noncomputable def opSliceData (x : CA) : OpF := fun tm st _ => evAK x tm fun v => match v with
  | .nilslice => .ok (.nilptr, st)
  | .slice id off _ c _ _ => match c with
    | 0 => err "sliceData"
    | _ => .ok (.ptr id off, st)
  | _ => err "sliceData"
noncomputable def evUnsafeStr (elem : Nat) (p n : AV) (st : St) : M (AV × St) := match n with
  | .int _ (.ofNat n) => match n with
    | 0 => match p with
      | .nilptr => .ok (.str 0 0, st)
      | .ptr _ _ => .ok (.str 0 0, st)
      | _ => err "unsafe.String"
    | _ => match p with
      | .ptr id off => match cellsOf st.heap id with
        | some (some e, cs, fz) => match Nat.beq e elem && Nat.ble n 70368744177664, packFrom cs off 0 0 n with
          | true, some b => forceN (Nat.max fz (Nat.add off n)) fun fz => st.putK id (.cells (some e) cs fz) fun st => .ok (.str n b, st)
          | _, _ => err "unsafe.String: cells"
        | _ => err "unsafe.String: no such object"
      | _ => err "unsafe.String"
  | _ => err "unsafe.String"
noncomputable def opUnsafeStr (elem : Nat) (p n : CA) : OpF := fun tm st _ => evAK p tm fun p => evAK n tm fun n => evUnsafeStr elem p n st
noncomputable def opTyAssert (t : Nat) (ok : Bool) (x : CA) : OpF := fun tm st _ => evAK x tm fun v => match v with
  | .iface u v => match Nat.beq u t with
    | true => .ok (okOr ok v true, st)
    | false => err "type assertion"
  | _ => err "type assertion"
noncomputable def opUnsafeTo (x : CA) : OpF := fun tm st _ => evAK x tm fun v => match v with
  | .nilptr => .ok (.nilptr, st)
  | .ptr id off => match load1At st.heap id off with
    | some _ => .ok (.ptr id off, st)
    | none => err "unsafe.Pointer: no cell"
  | _ => err "unsafe.Pointer"
noncomputable def opUnsafeFrom (elem last : Nat) (x : CA) : OpF := fun tm st _ => evAK x tm fun v => match v with
  | .nilptr => .ok (.nilptr, st)
  | .ptr id off => match off with
    | 0 => match cellsOf st.heap id with
      | some (some e, cs, _) => match Nat.beq e elem, cs.get last with
        | true, some _ => .ok (.ptr id 0, st)
        | _, _ => err "unsafe.Pointer: another type"
      | _ => err "unsafe.Pointer: no such object"
    | _ => err "unsafe.Pointer: inside"
  | _ => err "unsafe.Pointer"
noncomputable def opBad (n : Nat) : OpF := fun _ _ _ => .error ("bad " ++ toString n)
noncomputable def evOp (o : CO) : OpF :=
  match o with
  | .mv x => opMv x
  | .pick c a b => opPick c a b
  | .newc e c => opNewc e c
  | .box e x => opBox e x
  | .build z p => opBuild z p
  | .buildSlice e s l z p => opBuildSlice e s l z p
  | .load1 x => opLoad1 x
  | .loadN n x => opLoadN n x
  | .store n a x => opStore n a x
  | .nilCheck x => opNilCheck x
  | .bin op x y => opBin op x y
  | .eql n p x y => opEql n p x y
  | .un op x => opUn op x
  | .convInt k x => opConvInt k x
  | .same x => opSame x
  | .strOfBytes x => opStrOfBytes x
  | .bytesOfStr e x => opBytesOfStr e x
  | .strOfInt x => opStrOfInt x
  | .mkIface t x => opMkIface t x
  | .mkFunc f a b => opMkFunc f a b
  | .mkMap => opMkMap
  | .mkSlice e s b z l c => opMkSlice e s b z l c
  | .sliceStr x l h => opSliceStr x l h
  | .sliceSl e x l h m => opSliceSl e x l h m
  | .sliceArr n e x l h m => opSliceArr n e x l h m
  | .fieldAddr o x => opFieldAddr o x
  | .field o n x => opField o n x
  | .idxAddrArr l e x i => opIdxAddrArr l e x i
  | .idxAddrSl e x i => opIdxAddrSl e x i
  | .idxArr l e n x i => opIdxArr l e n x i
  | .idxStr x i => opIdxStr x i
  | .lookup s z ok m k => opLookup s z ok m k
  | .mapUpd s m k v => opMapUpd s m k v
  | .range s x => opRange s x
  | .next s it => opNext s it
  | .entry it => opEntry it
  | .extract i x => opExtract i x
  | .call f l => opCall f l
  | .callV f l => opCallV f l
  | .append e s b x y => opAppend e s b x y
  | .copy e x y => opCopy e x y
  | .delete s m k => opDelete s m k
  | .clear z x => opClear z x
  | .lenStr x => opLenStr x
  | .lenSl x => opLenSl x
  | .lenArr n => opLenArr n
  | .lenMap x => opLenMap x
  | .capSl x => opCapSl x
  | .min l => opMin l
  | .max l => opMax l
  | .sliceData x => opSliceData x
  | .unsafeStr e p n => opUnsafeStr e p n
  | .tyAssert t ok x => opTyAssert t ok x
  | .unsafeTo x => opUnsafeTo x
  | .unsafeFrom e k x => opUnsafeFrom e k x
  | .bad n => opBad n
noncomputable def opClass (o : CO) : Nat :=
  match o with
  | .newc .. | .box .. | .buildSlice .. | .mkMap | .mkSlice .. | .bytesOfStr .. => 1
  | .load1 .. | .loadN .. => 2
  | .sliceArr .. | .store .. | .strOfBytes .. | .lookup .. | .mapUpd .. | .range .. | .next .. | .entry .. | .call .. | .callV .. | .append .. | .copy .. | .delete .. | .clear .. | .lenMap .. | .unsafeStr .. | .unsafeTo .. | .unsafeFrom .. => 3
  | _ => 0
noncomputable def putK {β : Type} (tm : T AV) (dst : Option Nat) (v : AV) (K : T AV → β) : β :=
  match dst with
  | some d => tm.setK d v K
  | none => K tm
noncomputable def putD (tm : T AV) (dst : Option Nat) (v : AV) : T AV :=
  match dst with
  | some d => tm.set d v
  | none => tm
noncomputable def wantV {β : Type} (want : Bool) (st : St) (K : Bool → St → M β) (v : AV) : M β :=
  match v with
  | .bool b => K (b == want) st
  | .sbool s => decK (.sbool s) st fun b st => K (b == want) st
  | .any => .error "want"
  | _ => K false st
noncomputable def wantK {β : Type} (g : Option (CA × Bool)) (tm : T AV) (st : St) (K : Bool → St → M β) : M β :=
  match g with
  | none => K true st
  | some (x, want) => evAK x tm (wantV want st K)
noncomputable def evOps1 (call : CallV) (o : COper) (rest : T AV → St → M (T AV × St)) (tm : T AV) (st : St) : M (T AV × St) :=
  match o with
  | ⟨dst, op, g, _⟩ => wantK g tm st fun b st => match b with
    | false => putK tm dst undef fun tm => rest tm st
    | true => match evOp op tm st call with
      | .ok (v, st) => putK tm dst v fun tm => rest tm st
      | .error e => .error e
noncomputable def evOps (call : CallV) (l : List COper) : T AV → St → M (T AV × St) :=
  List.rec (fun tm st => .ok (tm, st)) (fun o _ ih => evOps1 call o ih) l
end Go.Ab

namespace Go.Ab
abbrev Ov := List AV → St → M (AV × St)
structure Env where
  fn : T CFunc
  ov : T Ov
noncomputable def optA : Option CA → List CA
  | none => []
  | some x => [x]
noncomputable def partsA : List (Nat × Nat × CA) → List CA
  | [] => []
  | (_, _, x) :: l => x :: partsA l
noncomputable def CO.args (o : CO) : List CA :=
  match o with
  | .mv x => [x]
  | .pick c a b => [c, a, b]
  | .newc _ _ => []
  | .box _ x => [x]
  | .build _ p => partsA p
  | .buildSlice _ _ _ _ p => partsA p
  | .load1 x => [x]
  | .loadN _ x => [x]
  | .store _ a x => [a, x]
  | .nilCheck x => [x]
  | .bin _ x y => [x, y]
  | .eql _ _ x y => [x, y]
  | .un _ x => [x]
  | .convInt _ x => [x]
  | .same x => [x]
  | .strOfBytes x => [x]
  | .bytesOfStr _ x => [x]
  | .strOfInt x => [x]
  | .mkIface _ x => [x]
  | .mkFunc _ a b => a ++ b
  | .mkMap => []
  | .mkSlice _ _ _ _ l c => [l, c]
  | .sliceStr x l h => x :: (optA l ++ optA h)
  | .sliceSl _ x l h m => x :: (optA l ++ (optA h ++ optA m))
  | .sliceArr _ _ x l h m => x :: (optA l ++ (optA h ++ optA m))
  | .fieldAddr _ x => [x]
  | .field _ _ x => [x]
  | .idxAddrArr _ _ x i => [x, i]
  | .idxAddrSl _ x i => [x, i]
  | .idxArr _ _ _ x i => [x, i]
  | .idxStr x i => [x, i]
  | .lookup _ _ _ m k => [m, k]
  | .mapUpd _ m k v => [m, k, v]
  | .range _ x => [x]
  | .next _ it => [it]
  | .entry it => [it]
  | .extract _ x => [x]
  | .call _ l => l
  | .callV f l => f :: l
  | .append _ _ _ x y => [x, y]
  | .copy _ x y => [x, y]
  | .delete _ m k => [m, k]
  | .clear _ x => [x]
  | .lenStr x => [x]
  | .lenSl x => [x]
  | .lenArr _ => []
  | .lenMap x => [x]
  | .capSl x => [x]
  | .min l => l
  | .max l => l
  | .sliceData x => [x]
  | .unsafeStr _ p n => [p, n]
  | .tyAssert _ _ x => [x]
  | .unsafeTo x => [x]
  | .unsafeFrom _ _ x => [x]
  | .bad _ => []
noncomputable def tmpsOf : List CA → List Nat
  | [] => []
  | .t t :: l => t :: tmpsOf l
  | .v _ :: l => tmpsOf l
noncomputable def COper.reads (o : COper) : List Nat := match o.guard with
  | some (x, _) => tmpsOf (x :: o.op.args)
  | none => tmpsOf o.op.args
noncomputable def dstOk1 (d i a : Nat) : Nat → List COper → Bool
  | _, [] => true
  | j, o :: l => (Nat.beq i j || (match o.dst with | some d' => !Nat.beq d d' | none => true) && (!memT d o.reads || Nat.testBit o.anc i || Nat.testBit a j)) && dstOk1 d i a (Nat.succ j) l
where memT (x : Nat) : List Nat → Bool
  | [] => false
  | y :: l => Nat.beq x y || memT x l
noncomputable def dstOkAll (all : List COper) : Nat → List COper → Bool
  | _, [] => true
  | i, o :: l => (match o.dst with | some d => dstOk1 d i o.anc 0 all | none => true) && dstOkAll all (Nat.succ i) l
structure LoadR where
  j : Nat
  anc : Nat
  p : AV
  n : Option Nat
  v : AV
abbrev News := List (Nat × AObj)
structure DR where
  tm : T AV
  base : T AObj
  bases : List (T AObj)
  pend : List (Nat × News)
  softs : Nat
  hmask : Nat
  hards : List (Nat × Nat)
  loads : List LoadR
  next : Nat
  low : Nat
  sc : List Bool
  tr : List (SB × Bool)
noncomputable def addAll (h : T AObj) : News → T AObj
  | [] => h
  | (i, o) :: l => addAll (h.set i o) l
noncomputable def heapFor (base : T AObj) (anc : Nat) : List (Nat × News) → T AObj
  | [] => base
  | (i, l) :: p => match Nat.testBit anc i with
    | true => heapFor (addAll base l) anc p
    | false => heapFor base anc p
noncomputable def heapAll (base : T AObj) : List (Nat × News) → T AObj
  | [] => base
  | (_, l) :: p => heapAll (addAll base l) p
noncomputable def pendRest (anc : Nat) : List (Nat × News) → List (Nat × News)
  | [] => []
  | (i, l) :: p => match Nat.testBit anc i with
    | true => pendRest anc p
    | false => (i, l) :: pendRest anc p
noncomputable def collect (h : T AObj) (i : Nat) : Nat → News
  | 0 => []
  | n + 1 => match h.get i with
    | some o => (i, o) :: collect h (i + 1) n
    | none => collect h (i + 1) n
noncomputable def within (a b : Nat) : Bool := Nat.beq (Nat.land a b) a
noncomputable def newsOf (i : Nat) (v : AV) (h : T AObj) (n n' : Nat) (p : List (Nat × News)) : List (Nat × News) :=
  match v.flat with
  | true => p
  | false => (i, collect h n (n' - n)) :: p
noncomputable def evAlloc (call : CallV) (i : Nat) (o : COper) (s : DR) : M (AV × DR) :=
  match evOp o.op s.tm { heap := .leaf, next := s.next, low := s.next, sc := s.sc, tr := s.tr } call with
  | .error e => .error e
  | .ok (v, st) => match Nat.ble s.next st.low with
    | true => .ok (v, { s with pend := newsOf i v st.heap s.next st.next s.pend, next := st.next, sc := st.sc, tr := st.tr })
    | false => .error "draw: alloc"
noncomputable def evMany (call : CallV) (i : Nat) (o : COper) (s : DR) : M (AV × DR) :=
  match evOp o.op s.tm { heap := heapFor s.base o.anc s.pend, next := s.next, low := s.next, sc := s.sc, tr := s.tr } call with
  | .error e => .error e
  | .ok (v, st) =>
    match within s.hmask o.anc with
    | false => .error "draw: beside a hard one"
    | true =>
    match Nat.ble s.next st.low with
    | true => .ok (v, { s with pend := newsOf i v st.heap s.next st.next s.pend, softs := Nat.lor s.softs (Nat.pow 2 i), next := st.next, sc := st.sc, tr := st.tr })
    | false => match within s.softs o.anc with
      | false => .error "draw: a hard one beside soft ones"
      | true => .ok (v, { s with
          base := st.heap, bases := s.base :: s.bases, pend := pendRest o.anc s.pend, softs := 0, hmask := Nat.lor s.hmask (Nat.pow 2 i), hards := (i, o.anc) :: s.hards,
          next := st.next, low := lowered s.low st.low, sc := st.sc, tr := st.tr })
noncomputable def evLoadR (call : CallV) (i : Nat) (o : COper) (x : CA) (n : Option Nat) (s : DR) : M (AV × DR) :=
  match loadAt s.base (evA s.tm x) n with
  | some v => .ok (v, { s with loads := { j := i, anc := o.anc, p := evA s.tm x, n := n, v := v } :: s.loads })
  | none => evMany call i o s
noncomputable def evPureR (call : CallV) (o : COper) (s : DR) : M (AV × DR) :=
  match evOp o.op s.tm { heap := .leaf, next := s.next, low := s.low, sc := s.sc, tr := s.tr } call with
  | .error e => .error e
  | .ok (v, st) => .ok (v, { s with sc := st.sc, tr := st.tr })
noncomputable def asLoad : CO → Option (CA × Option Nat)
  | .load1 x => some (x, none)
  | .loadN n x => some (x, some n)
  | _ => none
noncomputable def evDrawOp (call : CallV) (i : Nat) (o : COper) (s : DR) : M (AV × DR) :=
  match opClass o.op with
  | 0 => evPureR call o s
  | 1 => evAlloc call i o s
  | _ => match asLoad o.op with
    | some (x, n) => evLoadR call i o x n s
    | none => evMany call i o s
noncomputable def evDraw (call : CallV) : List COper → Nat → DR → M DR
  | [], _, s => .ok s
  | o :: l, i, s =>
    wantK o.guard s.tm { heap := .leaf, next := s.next, low := s.low, sc := s.sc, tr := s.tr } fun b st => match b with
    | false => putK s.tm o.dst undef fun tm => evDraw call l (i + 1) { s with tm := tm, sc := st.sc, tr := st.tr }
    | true => match evDrawOp call i o { s with sc := st.sc, tr := st.tr } with
      | .ok (v, s) => putK s.tm o.dst v fun tm => evDraw call l (i + 1) { s with tm := tm }
      | .error e => .error e
noncomputable def countAnc (anc : Nat) : List (Nat × Nat) → Nat
  | [] => 0
  | (h, _) :: l => match Nat.testBit anc h with
    | true => countAnc anc l + 1
    | false => countAnc anc l
noncomputable def countDesc (j : Nat) : List (Nat × Nat) → Nat
  | [] => 0
  | (_, a) :: l => match Nat.testBit a j with
    | true => countDesc j l + 1
    | false => countDesc j l
noncomputable def sameAt (r : LoadR) : List (T AObj) → Nat → Nat → Bool
  | _, _, 0 => true
  | [], _, _ + 1 => false
  | b :: l, 0, n + 1 => match loadAt b r.p r.n with
    | some v => v.beq r.v && sameAt r l 0 n
    | none => false
  | _ :: l, k + 1, n + 1 => sameAt r l k (n + 1)
noncomputable def checkLoads (hards : List (Nat × Nat)) (bases : List (T AObj)) : List LoadR → Bool
  | [] => true
  | r :: l =>
    let lo := countAnc r.anc hards
    let hi := lenL hards - countDesc r.j hards
    sameAt r bases lo (hi - lo + 1) && checkLoads hards bases l
noncomputable def revAnd {α : Type} : List α → List α → List α
  | [], m => m
  | x :: l, m => revAnd l (x :: m)
noncomputable def loadsOk (s : DR) : Bool := match s.hards with
  | [] => true
  | _ => checkLoads s.hards (revAnd s.bases [s.base]) s.loads
noncomputable def evDrawAll (call : CallV) (ops : List COper) (tm : T AV) (st : St) : M (T AV × St) :=
  match st with
  | ⟨h, n, lo, sc, tr⟩ => match evDraw call ops 0 { tm, base := h, bases := [], pend := [], softs := 0, hmask := 0, hards := [], loads := [], next := n, low := lo, sc := sc, tr := tr } with
    | .error e => .error e
    | .ok s => match loadsOk s with
      | true => .ok (s.tm, { heap := heapAll s.base s.pend, next := s.next, low := s.low, sc := s.sc, tr := s.tr })
      | false => .error "draw: a load beside a hard one"
inductive Res where
  | ok (e : Ex) (tm : T AV) (mk : List Nat) (st : St)
  | bad (why : String)
noncomputable def dropMarks : List Nat → St → Option St
  | [], st => some st
  | r :: l, st => match st.heap.get r with
    | some .defr => dropMarks l (st.kill r)
    | _ => none
noncomputable def evResults (tm : T AV) (h : T AObj) : List CRes → Option (List AV)
  | [] => some []
  | .tmp t :: l => match evResults tm h l with
    | some r => some (evA tm (.t t) :: r)
    | none => none
  | .cell t n :: l => match loadAt h (evA tm (.t t)) n with
    | some v => match evResults tm h l with
      | some r => some (v :: r)
      | none => none
    | none => none
noncomputable def oneOrMore : List AV → AV
  | [v] => v
  | l => .tuple l
noncomputable def setAll (tm : T AV) : List Nat → List AV → Option (T AV)
  | [], [] => some tm
  | p :: ps, v :: vs => setAll (tm.set p v) ps vs
  | _, _ => none
abbrev EvF := Bool → CCode → T AV → List Nat → St → Res
noncomputable def endCall (cf : CFunc) : Res → M (AV × St)
  | .bad e => .error e
  | .ok e tm mk st => match e with
    | .exit _ => .error "exit"
    | _ => match dropMarks mk st with
      | none => .error "marks"
      | some st => match evResults tm st.heap cf.results with
        | some l => .ok (oneOrMore l, st)
        | none => .error "results"
noncomputable def callBody (cf : CFunc) (rec : EvF) (args : List AV) (st : St) : M (AV × St) :=
  match Nat.ble (lenL args) cf.ntmps with
  | true => T.leaf.ofListK 0 args fun tm => endCall cf (rec false cf.body tm [] st)
  | false => .error "arguments"
noncomputable def tag (f : Nat) : M (AV × St) → M (AV × St)
  | .error e => .error (toString f ++ " " ++ e)
  | .ok r => .ok r
noncomputable def callFn (G : Env) (rec : EvF) (f : Nat) (args : List AV) (st : St) : M (AV × St) :=
  match G.ov.get f with
  | some o => o args st
  | none => match G.fn.get f with
    | none => .error ("no function " ++ toString f)
    | some cf => callBody cf rec args st
noncomputable def callRound (rec : EvF) (l : Nat) (args : List AV) (st : St) : M (AV × St) :=
  match st.heap.get l with
  | some (.loop lp) => match lp.busy || lp.over, setAll lp.tm lp.params args with
    | false, some tm => match rec true lp.assign tm [] st with
      | .ok .normal tm [] st => match st.heap.get l with
        | some (.loop lp1) => match lp1.busy || lp1.over with
          | false => match rec true lp.body tm [] (st.put l (.loop { lp1 with busy := true })) with
            | .ok e _ [] st => match st.heap.get l with
              | some (.loop lp2) => match e with
                | .normal => .ok (.bool true, st.put l (.loop { lp2 with busy := false, over := false, pending := none }))
                | e => .ok (.bool false, st.put l (.loop { lp2 with busy := false, over := true, pending := some e }))
              | _ => .error "round"
            | .ok .. => .error "round: marks"
            | .bad e => .error e
          | true => .error "round"
        | _ => .error "round"
      | .ok .. => .error "round: assign"
      | .bad e => .error e
    | _, _ => .error "round: busy, or parameters"
  | _ => .error "no such loop"
noncomputable def callAny (G : Env) (rec : EvF) (fn : AFn) (args : List AV) (st : St) : M (AV × St) :=
  match fn with
  | .func f => callFn G rec f args st
  | .yield l => callRound rec l args st
abbrev CodeF := Env → EvF → Bool → T AV → List Nat → St → Res
noncomputable def cdSkip : CodeF := fun _ _ _ tm mk st => .ok .normal tm mk st
noncomputable def cdRet : CodeF := fun _ _ _ tm mk st => .ok .ret tm mk st
noncomputable def cdExit (i : Nat) : CodeF := fun _ _ _ tm mk st => .ok (.exit i) tm mk st
noncomputable def endOps (mk : List Nat) : M (T AV × St) → Res
  | .ok (tm, st) => .ok .normal tm mk st
  | .error e => .bad e
noncomputable def cdRegion (ops : List COper) : CodeF := fun G rec _ tm mk st => endOps mk (evOps (callAny G rec) ops tm st)
noncomputable def cdDraw (ops : List COper) : CodeF := fun G rec _ tm mk st => endOps mk (evDrawAll (callAny G rec) ops tm st)
noncomputable def thenK (K : T AV → List Nat → St → Res) : Res → Res
  | .ok e tm mk st => match e with
    | .normal => K tm mk st
    | e => .ok e tm mk st
  | .bad e => .bad e
noncomputable def cdSeq (a b : CCode) : CodeF := fun _ rec rnd tm mk st => thenK (rec rnd b) (rec rnd a tm mk st)
noncomputable def decR (v : AV) (st : St) (K : Bool → St → Res) : Res :=
  match v with
  | .bool b => K b st
  | .sbool s => match st with
    | ⟨h, n, lo, d :: sc, tr⟩ => K d ⟨h, n, lo, sc, (s, d) :: tr⟩
    | _ => .bad "the script is over"
  | _ => .bad "no bool"
noncomputable def cdCond (c : CA) (a b : CCode) : CodeF := fun _ rec rnd tm mk st => evAK c tm fun v => decR v st fun d st => match d with
  | true => rec rnd a tm mk st
  | false => rec rnd b tm mk st
noncomputable def endBlock (i : Nat) : Res → Res
  | .ok e tm mk st => match e with
    | .exit j => match Nat.beq j i with
      | true => .ok .normal tm mk st
      | false => .ok (.exit j) tm mk st
    | e => .ok e tm mk st
  | .bad e => .bad e
noncomputable def cdBlock (i : Nat) (b : CCode) : CodeF := fun _ rec rnd tm mk st => endBlock i (rec rnd b tm mk st)
noncomputable def cdLoop (b : CCode) : CodeF := fun _ rec rnd tm mk st => thenK (rec rnd (.loop b)) (rec rnd b tm mk st)
noncomputable def endRange (r l : Nat) (tm : T AV) (mk : List Nat) : M (AV × St) → Res
  | .ok (_, st) => match st.heap.get l with
    | some (.loop lp) => match lp.busy with
      | false => .ok (match lp.pending with | none => .normal | some e => e) tm (r :: mk) (st.kill l)
      | true => .bad "loop: busy"
    | _ => .bad "loop"
  | .error e => .bad e
noncomputable def cdRange (f : CA) (ps : List Nat) (assign body : CCode) : CodeF := fun G rec rnd tm mk st => match rnd with
  | true => .bad "range over a function, in a round"
  | false => evAK f tm fun v => match v with
    | .func (.func f) first captured => match G.fn.get f with
      | some _ => st.newK .defr fun r st => st.newK (.loop { busy := false, over := false, pending := none, tm, params := ps, assign, body }) fun l st =>
        endRange r l tm mk (callFn G rec f (first ++ (.func (.yield l) [] [] :: captured)) st)
      | none => .bad "range over a function: no such function"
    | _ => .bad "range over a function"
noncomputable def cdFail : CodeF := fun _ _ _ _ _ _ => .bad "no such code"
noncomputable def evCode (c : CCode) : CodeF :=
  match c with
  | .skip => cdSkip
  | .ret => cdRet
  | .exit i => cdExit i
  | .region ops => cdRegion ops
  | .draw ops => cdDraw ops
  | .seq a b => cdSeq a b
  | .cond c a b => cdCond c a b
  | .block i b => cdBlock i b
  | .loop b => cdLoop b
  | .rangeFunc f ps a b => cdRange f ps a b
  | .fail => cdFail
noncomputable def evBad : EvF := fun _ _ _ _ _ => .bad "fuel"
noncomputable def evStep (G : Env) (rec : EvF) : EvF := fun rnd c tm mk st => evCode c G rec rnd tm mk st
noncomputable def ev (G : Env) (n : Nat) : EvF := Nat.rec evBad (fun _ ih => evStep G ih) n
end Go.Ab

namespace Go.Ab
noncomputable def packL : List UInt8 → Nat
  | [] => 0
  | b :: l => b.toNat + 256 * packL l
noncomputable def packB (s : ByteArray) : AV := .str s.size (packL s.data.toList)
noncomputable def mapO {α β : Type} (f : α → Option β) : List α → Option (List β)
  | [] => some []
  | x :: l => match f x with
    | some y => match mapO f l with
      | some r => some (y :: r)
      | none => none
    | none => none
noncomputable def cVal : Nat → Value → Option AV
  | 0, _ => none
  | d + 1, v => match v with
    | .bool b => some (.bool b)
    | .int k n => some (.int k n)
    | .string s => some (packB s)
    | .pointer none => some .nilptr
    | .slice none 0 0 => some .nilslice
    | .map none => some .nilmap
    | .nilFunc => some .nilFunc
    | .nilIface => some .nilIface
    | .iface t v => match cVal d v with
      | some v => some (.iface t v)
      | none => none
    | .agg cs => match mapO (cVal d) cs.toList with
      | some l => some (.agg l)
      | none => none
    | .tuple cs => match mapO (cVal d) cs.toList with
      | some l => some (.tuple l)
      | none => none
    | _ => none
abbrev Sub := List (Nat × CA)
noncomputable def Sub.find (s : Sub) (t : Nat) : Option CA := match s with
  | [] => none
  | (u, x) :: l => match Nat.beq u t with
    | true => some x
    | false => Sub.find l t
noncomputable def Sub.drop (s : Sub) (d : Nat) : Sub := match s with
  | [] => []
  | (u, x) :: l => match Nat.beq u d with
    | true => Sub.drop l d
    | false => match x with
      | .t t => match Nat.beq t d with
        | true => Sub.drop l d
        | false => (u, x) :: Sub.drop l d
      | .v v => (u, .v v) :: Sub.drop l d
section
variable (E : T Unit) (s : Sub)
noncomputable def cTmp (t : Nat) : Option CA := match E.get t with
  | none => some (.t t)
  | some _ => s.find t
noncomputable def cOpnd : Operand → Option CA
  | .tmp t => cTmp E s t
  | .const v => match cVal 4 v with
    | some v => some (.v v)
    | none => none
  | .global g => match Nat.blt g 100 with
    | true => some (.v (.ptr g 0))
    | false => none
  | .func f => some (.v (.func (.func f) [] []))
noncomputable def cOpnds (l : Array Operand) : Option (List CA) := mapO (cOpnd E s) l.toList
noncomputable def cOptOpnd : Option Operand → Option (Option CA)
  | none => some none
  | some x => match cOpnd E s x with
    | some x => some (some x)
    | none => none
end
section
variable (P : Program) (E : T Unit) (σ : Sub)
noncomputable def aggOf (t : TypeId) : Option (Option Nat) := do
  let u ← P.underlying t
  let i ← P.info? t
  match u with
  | .struct _ | .array _ _ => some (some i.size)
  | _ => some none
noncomputable def zeroOf (t : TypeId) : Option AV := do
  let i ← P.info? t
  let z ← i.zero
  cVal 4 z
noncomputable def sizeOfT (t : TypeId) : Option Nat := do
  let i ← P.info? t
  some i.size
noncomputable def bytesOfT (t : TypeId) : Option Nat := do
  let i ← P.info? t
  some i.bytes
noncomputable def fieldPlans (rec : TypeId → Option Plan) : List Field → Option (List (Nat × Option Nat × Plan))
  | [] => some []
  | f :: l => do
    let r ← fieldPlans rec l
    if f.name ≠ "_" then
      let n ← aggOf P f.type
      let p ← rec f.type
      some ((f.offset, n, p) :: r)
    else some r
noncomputable def planOf : Nat → TypeId → Option Plan
  | 0, _ => none
  | d + 1, t => do
    match ← P.underlying t with
    | .bool => some (.leaf 0)
    | .int _ => some (.leaf 1)
    | .string => some (.leaf 2)
    | .pointer e => if (← sizeOfT P e) ≠ 0 then some (.leaf 3) else none
    | .slice _ => some (.leaf 4)
    | .map _ _ => some (.leaf 5)
    | .func _ _ _ => some (.leaf 6)
    | .interface _ => some (.leaf 7)
    | .struct fs =>
      if P.stoodInHeld t then none else
      let l ← fieldPlans P (planOf d) fs.toList
      some (.fields l)
    | .array len e => do
      let n ← sizeOfT P e
      let a ← aggOf P e
      let p ← planOf d e
      some (.fields ((List.range len).map fun i => (i * n, a, p)))
    | _ => none
noncomputable def isConstO : Operand → Bool
  | .const _ => true
  | _ => false
noncomputable def cBin (op : BinOp) (t : TypeId) (x y : Operand) : Option CO := do
  let a ← cOpnd E σ x
  let b ← cOpnd E σ y
  match ← P.underlying t with
  | .int _ | .string => some (.bin op a b)
  | u =>
    match op with
    | .eql | .neq =>
      let p ← planOf P 6 t
      match u with
      | .interface _ => if isConstO x || isConstO y then some (.eql (op == .neq) p a b) else none
      | .struct _ | .array _ _ => if P.eqGuardType P.depth t then none else some (.eql (op == .neq) p a b)
      | _ => some (.eql (op == .neq) p a b)
    | _ => none
noncomputable def cConv (src dst : TypeId) (x : Operand) : Option CO := do
  let a ← cOpnd E σ x
  match ← P.underlying src, ← P.underlying dst with
  | .int _, .int k => some (.convInt k a)
  | .int _, .string => some (.strOfInt a)
  | .string, .string => some (.same a)
  | .slice e, .string => match ← P.underlying e with
    | .int .u8 => some (.strOfBytes a)
    | _ => none
  | .string, .slice e => match ← P.underlying e with
    | .int .u8 => some (.bytesOfStr e a)
    | _ => none
  | .pointer e, .unsafePointer => if (← sizeOfT P e) ≠ 0 then some (.unsafeTo a) else none
  | .unsafePointer, .pointer e => if (← sizeOfT P e) ≠ 0 then some (.unsafeFrom e ((← sizeOfT P e) - 1) a) else none
  | _, _ => none
noncomputable def cParts (place : Nat → Option (Nat × Nat)) : List (Nat × Operand) → Option (List (Nat × Nat × CA))
  | [] => some []
  | (i, x) :: l => do
    let (off, size) ← place i
    let a ← cOpnd E σ x
    let r ← cParts place l
    some ((off, size, a) :: r)
noncomputable def cBuild (t : TypeId) (parts : Array (Nat × Operand)) : Option CO := do
  let z ← zeroOf P t
  match ← P.underlying t with
  | .struct fs =>
    let places ← mapO (fun (f : Field) => do some (f.offset, ← sizeOfT P f.type)) fs.toList
    let l ← cParts E σ (fun i => places[i]?) parts.toList
    some (.build z.cells l)
  | .array _ e =>
    let n ← sizeOfT P e
    let l ← cParts E σ (fun i => some (i * n, n)) parts.toList
    some (.build z.cells l)
  | _ => none
noncomputable def keyOk (t : TypeId) : Option Bool :=
  match P.underlying t with
  | some (.int _) => some false
  | some .string => some true
  | _ => none
noncomputable def cBuiltin (b : Builtin) (argTypes : Array TypeId) (args : List CA) : Option CO := do
  match b, args with
  | .append, [x, y] =>
    let t ← argTypes[0]?
    let u ← argTypes[1]?
    match ← P.underlying t, ← P.underlying u with
    | _, .int _ => none
    | .slice e, _ =>
      let z ← zeroOf P e
      let n ← sizeOfT P e
      let w ← bytesOfT P e
      if 1 ≤ n && 1 ≤ w && z.cells.length == n then some (.append e n w x y) else none
    | _, _ => none
  | .len, [x] =>
    let t ← argTypes[0]?
    match ← P.underlying t with
    | .string => some (.lenStr x)
    | .slice _ => some (.lenSl x)
    | .map _ _ => some (.lenMap x)
    | .array n _ => some (.lenArr n)
    | .pointer a => match ← P.underlying a with
      | .array n _ => some (.lenArr n)
      | _ => none
    | _ => none
  | .cap, [x] =>
    let t ← argTypes[0]?
    match ← P.underlying t with
    | .slice _ => some (.capSl x)
    | _ => none
  | .copy, [x, y] =>
    let t ← argTypes[0]?
    match ← P.underlying t with
    | .slice e => some (.copy (← sizeOfT P e) x y)
    | _ => none
  | .delete, [m, k] =>
    let t ← argTypes[0]?
    match ← P.underlying t with
    | .map key _ => some (.delete (← keyOk P key) m k)
    | _ => none
  | .clear, [x] =>
    let t ← argTypes[0]?
    match ← P.underlying t with
    | .map _ _ => some (.clear [] x)
    | .slice e =>
      let z ← zeroOf P e
      let n ← sizeOfT P e
      if z.cells.length == n then some (.clear z.cells x) else none
    | _ => none
  | .min, l => some (.min l)
  | .max, l => some (.max l)
  | .unsafeSliceData, [x] => some (.sliceData x)
  | .unsafeString, [p, n] =>
    let t ← argTypes[0]?
    match ← P.underlying t with
    | .pointer e => match ← P.underlying e with
      | .int .u8 => if (← sizeOfT P e) == 1 then some (.unsafeStr e p n) else none
      | _ => none
    | _ => none
  | _, _ => none
noncomputable def cOp (o : Oper) : Option CO := do
  match o.op with
  | .move x | .assign x => some (.mv (← cOpnd E σ x))
  | .pick c a b => some (.pick (← cOpnd E σ c) (← cOpnd E σ a) (← cOpnd E σ b))
  | .alloc t => some (.newc t (← zeroOf P t).cells)
  | .box t x => some (.box t (← cOpnd E σ x))
  | .build t parts => cBuild P E σ t parts
  | .buildSlice t len parts =>
    let .slice e ← P.underlying t | none
    let n ← sizeOfT P e
    let z ← zeroOf P e
    if z.cells.length == n then
      let l ← cParts E σ (fun i => some (i * n, n)) parts.toList
      some (.buildSlice e n len z.cells l)
    else none
  | .load t x => match ← aggOf P t with
    | none => some (.load1 (← cOpnd E σ x))
    | some n => some (.loadN n (← cOpnd E σ x))
  | .store t a x => some (.store (← sizeOfT P t) (← cOpnd E σ a) (← cOpnd E σ x))
  | .nilCheck x => some (.nilCheck (← cOpnd E σ x))
  | .binOp op t x y _ => cBin P E σ op t x y
  | .unOp op _ x => some (.un op (← cOpnd E σ x))
  | .convert s d x => cConv P E σ s d x
  | .makeInterface t x => match ← P.underlying t with
    | .interface _ => none
    | _ => some (.mkIface t (← cOpnd E σ x))
  | .makeFunc (.func f) a b => some (.mkFunc f (← cOpnds E σ a) (← cOpnds E σ b))
  | .makeMap _ none => some .mkMap
  | .makeSlice t l c =>
    let .slice e ← P.underlying t | none
    let n ← sizeOfT P e
    let w ← bytesOfT P e
    let z ← zeroOf P e
    if z.cells.length == n && 1 ≤ n then some (.mkSlice e n w z.cells (← cOpnd E σ l) (← cOpnd E σ c)) else none
  | .slice t x lo hi mx =>
    let a ← cOpnd E σ x
    let l ← cOptOpnd E σ lo
    let h ← cOptOpnd E σ hi
    let m ← cOptOpnd E σ mx
    match ← P.underlying t with
    | .string => if mx.isSome then none else some (.sliceStr a l h)
    | .slice e => some (.sliceSl (← sizeOfT P e) a l h m)
    | .array n e => some (.sliceArr n (← sizeOfT P e) a l h m)
    | .pointer arr => match ← P.underlying arr with
      | .array n e => if mx.isSome then none else some (.sliceArr n (← sizeOfT P e) a l h m)
      | _ => none
    | _ => none
  | .fieldAddr s x i =>
    let .struct fs ← P.underlying s | none
    let f ← fs[i]?
    if (← sizeOfT P f.type) ≠ 0 then some (.fieldAddr f.offset (← cOpnd E σ x)) else none
  | .field s x i =>
    let .struct fs ← P.underlying s | none
    let f ← fs[i]?
    some (.field f.offset (← aggOf P f.type) (← cOpnd E σ x))
  | .indexAddr t x i => match ← P.underlying t with
    | .array n e => some (.idxAddrArr n (← sizeOfT P e) (← cOpnd E σ x) (← cOpnd E σ i))
    | .slice e => some (.idxAddrSl (← sizeOfT P e) (← cOpnd E σ x) (← cOpnd E σ i))
    | _ => none
  | .index t x i => match ← P.underlying t with
    | .array n e => some (.idxArr n (← sizeOfT P e) (← aggOf P e) (← cOpnd E σ x) (← cOpnd E σ i))
    | .string => some (.idxStr (← cOpnd E σ x) (← cOpnd E σ i))
    | _ => none
  | .lookup t m k ok =>
    let .map key e ← P.underlying t | none
    some (.lookup (← keyOk P key) (← zeroOf P e) ok (← cOpnd E σ m) (← cOpnd E σ k))
  | .mapUpdate t m k v | .insert t m k v =>
    let .map key _ ← P.underlying t | none
    some (.mapUpd (← keyOk P key) (← cOpnd E σ m) (← cOpnd E σ k) (← cOpnd E σ v))
  | .range t x => match ← P.underlying t with
    | .string => some (.range true (← cOpnd E σ x))
    | .map _ _ => some (.range false (← cOpnd E σ x))
    | _ => none
  | .next it s => some (.next s (← cOpnd E σ it))
  | .typeAssert x _ t ok => match ← P.underlying t with
    | .interface _ => none
    | _ => some (.tyAssert t ok (← cOpnd E σ x))
  | .entry it => some (.entry (← cOpnd E σ it))
  | .extract t i => some (.extract i (← cOpnd E σ t))
  | .call c =>
    let args ← cOpnds E σ c.args
    match c.callee with
    | .value (.func f) => some (.call f args)
    | .value f => some (.callV (← cOpnd E σ f) args)
    | .builtin b => cBuiltin P b c.argTypes args
    | .invoke _ _ => none
  | _ => none
noncomputable def opTag (o : Oper) : Nat := match o.op with
  | .convert s d _ => 10000000 + s * 1000 + d
  | .typeAssert .. => 1
  | .call _ => 2
  | .defer _ => 3
  | .binOp _ t _ _ _ => 20000000 + t
  | .panic _ => 4
  | .build t _ => 30000000 + t
  | .mapEntry .. => 6
  | .entry .. => 7
  | .makeSlice t .. => 40000000 + t
  | .alloc t => 50000000 + t
  | _ => 9
noncomputable def cGuard (ops : Array Oper) : Option (Nat × Bool) → Option (Option (CA × Bool))
  | none => some none
  | some (j, want) => match (ops[j]?).bind (·.dst) with
    | some t => match cTmp E σ t with
      | some x => some (some (x, want))
      | none => none
    | none => none
noncomputable def cOper (ops : Array Oper) (anc : Nat) (o : Oper) : COper :=
  match cGuard E σ ops o.guard, cOp P E σ o with
  | some g, some op => { dst := o.dst, op := op, guard := g, anc := anc }
  | some g, none => { dst := o.dst, op := .bad (opTag o), guard := g, anc := anc }
  | none, _ => { dst := none, op := .bad 0, guard := none, anc := anc }
noncomputable def cMove (o : Oper) : Option CA := match o.guard with
  | some _ => none
  | none => match o.op with
    | .move x | .assign x => cOpnd E σ x
    | _ => none
end
section
variable (P : Program) (E : T Unit)
noncomputable def cOpers (n : Nat) (ops : Array Oper) (s : Sub) : List Oper → List COper
  | [] => []
  | o :: l => match o.dst with
    | none => cOper P E s ops 0 o :: cOpers n ops s l
    | some d => match Nat.blt d n with
      | false => [{ dst := none, op := .bad 5, guard := none, anc := 0 }]
      | true => match E.get d with
        | none => cOper P E s ops 0 o :: cOpers n ops (s.drop d) l
        | some _ => match cMove E s o with
          | some x => cOpers n ops ((d, x) :: s.drop d) l
          | none => [{ dst := none, op := .bad 6, guard := none, anc := 0 }]
noncomputable def cDrawOpers (ops : Array Oper) : List Oper → List Nat → List COper
  | o :: l, a :: m => cOper P E [] ops a o :: cDrawOpers ops l m
  | _, _ => []
noncomputable def dstsOk (n : Nat) (ops : Array Oper) : Bool :=
  ops.toList.all fun o => match o.dst with
    | some d => Nat.blt d n && (E.get d).isNone
    | none => true
noncomputable def ancFold (b : List Nat) : List Edge → Nat
  | [] => 0
  | e :: l => match Region.binds .any e with
    | true => Nat.lor (Nat.lor (Nat.pow 2 e.on) (b.getD e.on 0)) (ancFold b l)
    | false => ancFold b l
noncomputable def ancOk (b : List Nat) : Nat → List Oper → List Nat → Bool
  | i, o :: l, a :: m => (o.after.toList.all fun e => !Region.binds .any e || Nat.blt e.on i) && Nat.beq a (ancFold b o.after.toList) && ancOk b (Nat.succ i) l m
  | _, [], [] => true
  | _, _, _ => false
noncomputable def drawOk (ops : Array Oper) (b : List Nat) (l : List COper) : Bool := ancOk b 0 ops.toList b && dstOkAll l 0 l
noncomputable def cSeq (a b : CCode) : CCode := match a with
  | .skip => b
  | a => match b with
    | .skip => a
    | b => .seq a b
noncomputable def cRegion (l : List COper) : CCode := match l with
  | [] => .skip
  | l => .region l
noncomputable def cCode (n : Nat) : Code → CCode
  | .skip => .skip
  | .region _ ops draw => match draw with
    | false => cRegion (cOpers P E n ops [] ops.toList)
    | true => match drawOk ops (Region.before ops).toList (cDrawOpers P E ops ops.toList (Region.before ops).toList) && dstsOk E n ops with
      | true => .draw (cDrawOpers P E ops ops.toList (Region.before ops).toList)
      | false => .fail
  | .seq a b => cSeq (cCode n a) (cCode n b)
  | .cond c a b => match cOpnd E [] c with
    | some c => .cond c (cCode n a) (cCode n b)
    | none => .fail
  | .block i b => .block i (cCode n b)
  | .loop b => .loop (cCode n b)
  | .rangeFunc f ps a b => match cOpnd E [] f, ps.toList.all fun p => Nat.blt p n && (E.get p).isNone with
    | some f, true => .rangeFunc f ps.toList (cCode n a) (cCode n b)
    | _, _ => .fail
  | .exit i => .exit i
  | .ret => .ret
  | _ => .fail
noncomputable def cRes : List ResultVar → Option (List CRes)
  | [] => some []
  | .tmp t :: l => match E.get t with
    | none => do some (.tmp t :: (← cRes l))
    | some _ => none
  | .cell a t :: l => match E.get a with
    | none => do some (.cell a (← aggOf P t) :: (← cRes l))
    | some _ => none
noncomputable def noParam (n : Nat) : Bool := match n with
  | 0 => true
  | n + 1 => (E.get n).isNone && noParam n
noncomputable def cFunc (f : Func) : Option CFunc := do
  let body ← f.body
  let r ← cRes P E f.results.toList
  if noParam E f.params.size then some { ntmps := f.ntmps, results := r, body := cCode P E f.ntmps body } else none
end
end Go.Ab

namespace Go.Ab
noncomputable def findByte (c : Nat) : Nat → Nat → Nat → Int
  | 0, _, _ => Int.negSucc 0
  | n + 1, b, i => match Nat.beq (Nat.mod b 256) c with
    | true => Int.ofNat i
    | false => findByte c n (Nat.shiftRight b 8) (Nat.succ i)
noncomputable def countByte (c : Nat) : Nat → Nat → Nat → Nat
  | 0, _, i => i
  | n + 1, b, i => match Nat.beq (Nat.mod b 256) c with
    | true => countByte c n (Nat.shiftRight b 8) (Nat.succ i)
    | false => countByte c n (Nat.shiftRight b 8) i
noncomputable def ovIndexByteString : Ov := fun args st => match args with
  | [.str n b, .int .u8 (.ofNat c)] => match Nat.blt c 256 with
    | true => forceI (findByte c n b 0) fun r => .ok (.int .i64 r, st)
    | false => err "byte"
  | _ => err "IndexByteString"
noncomputable def ovCountString : Ov := fun args st => match args with
  | [.str n b, .int .u8 (.ofNat c)] => match Nat.blt c 256 with
    | true => forceN (countByte c n b 0) fun r => .ok (.int .i64 (.ofNat r), st)
    | false => err "byte"
  | _ => err "CountString"
noncomputable def ovNoEscape : Ov := fun args st => match args with
  | [x] => .ok (x, st)
  | _ => err "NoEscape"
noncomputable def ovMakeNoZero (elem : Nat) : Ov := fun args st => match args with
  | [.int .i64 (.ofNat n)] => match Nat.ble n 70368744177664 with
    | true => st.newK (.cells (some elem) .leaf 0) fun id st => .ok (.slice id 0 n n false 1, st)
    | false => err "MakeNoZero"
  | _ => err "MakeNoZero"
noncomputable def ovMapsClone : Ov := fun args st => match args with
  | [.iface t (.map r)] => match st.heap.get r with
    | some (.map es clock) => st.newK (.map es clock) fun id st => .ok (.iface t (.map id), st)
    | _ => err "maps.clone: no such object"
  | _ => err "maps.clone"
noncomputable def ovClockRead : Ov := fun args st => match args with
  | [.ptr id off, .int .i64 raw] => match cellsOf st.heap id with
    | some (e, cs, 0) => match cs.get off, cs.get (off + 3) with
      | some (.int .i64 tick), some (.int .i64 all) => match ilt raw tick, ilt (.ofNat 1099511627776) raw with
        | false, false => forceI (fwrap .i64 (Int.add all 1)) fun a => forceI (fwrap .i64 (Int.sub raw tick)) fun d =>
          cs.setK (off + 3) (.int .i64 a) fun cs => cs.setK off (.int .i64 raw) fun cs => st.putK id (.cells e cs 0) fun st => .ok (.tuple [.int .i64 raw, .int .i64 d], st)
        | _, _ => err "Read: times"
      | _, _ => err "Read: cells"
    | _ => err "Read: no such object"
  | _ => err "Read"
noncomputable def incr (clock : Nat) : Nat → List (AV × AV × Nat) → Bool
  | _, [] => true
  | prev, (_, _, b) :: l => match Nat.ble prev b && Nat.blt b clock with
    | true => incr clock (Nat.succ b) l
    | false => false
noncomputable def intKeys : List (AV × AV × Nat) → Option (List Nat)
  | [] => some []
  | (.int .i64 (.ofNat n), _, _) :: l => match Nat.blt n 9223372036854775808 with
    | true => match intKeys l with
      | some r => some (n :: r)
      | none => none
    | false => none
  | _ => none
noncomputable def insN (x : Nat) : List Nat → List Nat
  | [] => [x]
  | y :: l => match Nat.blt y x with
    | true => y :: insN x l
    | false => x :: y :: l
noncomputable def sortN : List Nat → List Nat
  | [] => []
  | x :: l => insN x (sortN l)
noncomputable def strictN (x : Nat) : List Nat → Bool
  | [] => true
  | y :: l => match Nat.blt x y with
    | true => strictN y l
    | false => false
noncomputable def natAVs : List Nat → List AV
  | [] => []
  | n :: l => .int .i64 (.ofNat n) :: natAVs l
noncomputable def memN (x : Nat) : List Nat → Bool
  | [] => false
  | y :: l => Nat.beq x y || memN x l
noncomputable def ovSortedInt (keys : List Nat) (elem : Nat) : Ov := fun args st => match args with
  | [.func (.func f) [] [.ptr c 0]] => match memN f keys, cellsOf st.heap c with
    | true, some (some _, cs, _) => match cs.get 0 with
      | some (.map id) => match st.heap.get id with
        | some (.map es clock) => match incr clock 0 es && Nat.ble (lenL es) 1048576, intKeys es with
          | true, some ks => match sortN ks with
            | [] => .ok (.nilslice, st)
            | x :: l => match strictN x l with
              | true => T.leaf.ofListK 0 (natAVs (x :: l)) fun t => st.newK (.cells (some elem) t 0) fun i st => forceN (lenL (x :: l)) fun n => .ok (.slice i 0 n n false 1, st)
              | false => err "Sorted: twice"
          | _, _ => err "Sorted: keys"
        | _ => err "Sorted: no such map"
      | _ => err "Sorted: a map expected"
    | _, _ => err "Sorted: a box expected"
  | _ => err "Sorted"
noncomputable def sumLens : List (AV × AV × Nat) → Nat → Option Nat
  | [], n => some n
  | (_, .agg [.str m _, .int .i64 _], _) :: l, n => sumLens l (n + m)
  | _, _ => none
noncomputable def ovUsed (off : Nat) : Ov := fun args st => match args with
  | [.ptr d o] => match loadAt st.heap (.ptr d (o + off)) none with
    | some (.map id) => match st.heap.get id with
      | some (.map es clock) => match incr clock 0 es, sumLens es 0 with
        | true, some n => match Nat.blt n 9223372036854775808 with
          | true => forceN n fun n => .ok (.int .i64 (.ofNat n), st)
          | false => err "Used"
        | _, _ => err "Used: files"
      | _ => err "Used: no such map"
    | _ => err "Used: a map expected"
  | _ => err "Used"
noncomputable def leastI : List (AV × AV × Nat) → Option Int → Option (Option Int)
  | [], b => some b
  | (_, .int .i64 n, _) :: l, none => leastI l (some n)
  | (_, .int .i64 n, _) :: l, some b => leastI l (match ilt n b with | true => some n | false => some b)
  | _, _ => none
noncomputable def ovSee : Ov := fun args st => match args with
  | [.nilmap, _, _] => .ok (undef, st)
  | [.map id, .ptr fi fo, .ptr bi bo] => match st.heap.get id with
    | some (.map es clock) => match incr clock 0 es && !Nat.beq fi bi, cellsOf st.heap fi, cellsOf st.heap bi with
      | true, some (e1, c1, 0), some (e2, c2, 0) => match c1.get fo, c2.get bo with
        | some (.bool found), some (.int .i64 best) => match leastI es (match found with | true => some best | false => none) with
          | some (some n) => st.putK fi (.cells e1 (c1.set fo (.bool true)) 0) fun st => st.putK bi (.cells e2 (c2.set bo (.int .i64 n)) 0) fun st => .ok (undef, st)
          | some none => .ok (undef, st)
          | none => err "see: dues"
        | _, _ => err "see: found, best"
      | _, _, _ => err "see: cells"
    | _ => err "see: no such map"
  | _ => err "see"
noncomputable def crcBits : Nat → Nat → Nat
  | 0, r => r
  | n + 1, r => match Nat.mod r 2 with
    | 0 => forceN (Nat.shiftRight r 1) (crcBits n)
    | _ => forceN (Nat.xor (Nat.shiftRight r 1) 3988292384) (crcBits n)
noncomputable def crcBytes : Nat → Nat → Nat → Nat
  | 0, _, r => r
  | n + 1, b, r => forceN (crcBits 8 (Nat.xor r (Nat.mod b 256))) (crcBytes n (Nat.shiftRight b 8))
noncomputable def ovSum : Ov := fun args st => match args with
  | [.str n b] => forceN (Nat.xor (crcBytes n b 4294967295) 4294967295) fun r => .ok (.int .u32 (.ofNat r), st)
  | _ => err "Sum"
end Go.Ab

namespace Go.Ab
noncomputable def SE.eqb : SE → SE → Bool
  | .lit a, .lit b => ieq a b
  | .var i, .var j => Nat.beq i j
  | .bin o k a b, .bin o' k' a' b' => (o == o') && (keq k k' && (SE.eqb a a' && SE.eqb b b'))
  | .conv k a, .conv k' a' => keq k k' && SE.eqb a a'
  | _, _ => false
noncomputable def SE.sub (σ : List SE) : SE → SE
  | .lit a => .lit a
  | .var i => σ.getD i (.lit 0)
  | .bin o k a b => .bin o k (a.sub σ) (b.sub σ)
  | .conv k a => .conv k (a.sub σ)
noncomputable def SB.sub (σ : List SE) : SB → SB
  | .cmp o a b => .cmp o (a.sub σ) (b.sub σ)
  | .not b => .not (b.sub σ)
noncomputable def SB.eqb : SB → SB → Bool
  | .cmp o a b, .cmp o' a' b' => (o == o') && (SE.eqb a a' && SE.eqb b b')
  | .not a, .not b => SB.eqb a b
  | _, _ => false
abbrev Mv := List (Nat × Nat)
noncomputable def Mv.at : Mv → Nat → Nat
  | [], i => i
  | (j, k) :: l, i => match Nat.beq i j with
    | true => k
    | false => Mv.at l i
noncomputable def okAll (f : AV → AV → Bool) : List AV → List AV → Bool
  | [], [] => true
  | x :: l, y :: m => f x y && okAll f l m
  | _, _ => false
noncomputable def notAgg : AV → Bool
  | .agg _ => false
  | _ => true
noncomputable def okId (μ : Mv) (n : Nat) (i j : Nat) : Bool := Nat.beq (μ.at i) j && Nat.blt i n
noncomputable def okV (μ : Mv) (σ : List SE) (n : Nat) : Nat → AV → AV → Bool
  | 0, _, _ => false
  | f + 1, x, y => match x with
    | .any => notAgg y
    | .bool b => match y with | .bool c => b == c | _ => false
    | .sbool s => match y with | .sbool r => SB.eqb (s.sub σ) r | _ => false
    | .int k a => match y with | .int j b => keq k j && ieq a b | _ => false
    | .sint k e => match y with
      | .sint j g => keq k j && SE.eqb (e.sub σ) g
      | .int j b => keq k j && SE.eqb (e.sub σ) (.lit b)
      | _ => false
    | .str a b => match y with | .str c d => Nat.beq a c && Nat.beq b d | _ => false
    | .nilptr => match y with | .nilptr => true | _ => false
    | .ptr i o => match y with | .ptr j p => okId μ n i j && Nat.beq o p | _ => false
    | .nilslice => match y with | .nilslice => true | _ => false
    | .slice i o l c ex z => match y with
      | .slice j p m d ey u => okId μ n i j && (Nat.beq o p && (Nat.beq l m && (Nat.beq c d && ((ex == ey) && Nat.beq z u))))
      | _ => false
    | .nilmap => match y with | .nilmap => true | _ => false
    | .map i => match y with | .map j => okId μ n i j | _ => false
    | .func (.func g) a b => match y with
      | .func (.func h) c d => Nat.beq g h && (okAll (okV μ σ n f) a c && okAll (okV μ σ n f) b d)
      | _ => false
    | .nilFunc => match y with | .nilFunc => true | _ => false
    | .iface t v => match y with | .iface u w => Nat.beq t u && okV μ σ n f v w | _ => false
    | .nilIface => match y with | .nilIface => true | _ => false
    | .agg l => match y with | .agg m => okAll (okV μ σ n f) l m | _ => false
    | .tuple l => match y with | .tuple m => okAll (okV μ σ n f) l m | _ => false
    | _ => false
noncomputable def okEs (f : AV → AV → Bool) : List (AV × AV × Nat) → List (AV × AV × Nat) → Bool
  | [], [] => true
  | (k, v, b) :: l, (k', v', b') :: m => f k k' && (f v v' && (Nat.beq b b' && okEs f l m))
  | _, _ => false
noncomputable def okT {α : Type} (f : α → α → Bool) : T α → T α → Bool
  | .leaf, _ => true
  | .node l o r, t => match t with
    | .leaf => (match o with | none => true | some _ => false) && (okT f l .leaf && okT f r .leaf)
    | .node l' o' r' => (match o with
      | none => true
      | some x => match o' with
        | some y => f x y
        | none => false) && (okT f l l' && okT f r r')
noncomputable def allT {α : Type} (f : α → Bool) : T α → Bool
  | .leaf => true
  | .node l o r => (match o with | none => true | some x => f x) && (allT f l && allT f r)
noncomputable def okTm (f : AV → AV → Bool) : T AV → T AV → Bool
  | .leaf, t => allT notAgg t
  | .node l o r, t => match t with
    | .leaf => (match o with | none => true | some x => match x with | .any => true | _ => false) && (okTm f l .leaf && okTm f r .leaf)
    | .node l' o' r' => (match o' with
      | some y => (match o with
        | none => notAgg y
        | some x => f x y)
      | none => (match o with | none => true | some x => match x with | .any => true | _ => false)) && (okTm f l l' && okTm f r r')
noncomputable def okO (f : AV → AV → Bool) : AObj → AObj → Bool
  | .cells e cs fz, .cells e' cs' fz' => (match e with
      | none => true
      | some a => match e' with | some b => Nat.beq a b | none => false) && (Nat.beq fz fz' && okT f cs cs')
  | .map es c, .map es' c' => Nat.beq c c' && okEs f es es'
  | _, _ => false
noncomputable def moved (h : T AObj) : Mv → T AObj
  | [] => h
  | (j, k) :: l => match h.get k with
    | some o => (moved h l).set j o
    | none => .leaf
noncomputable def noneAt {α : Type} (h : T α) (k : Nat) : Bool := match h.get k with | none => true | some _ => false
noncomputable def hasKey : Mv → Nat → Bool
  | [], _ => false
  | (j, _) :: l, k => match Nat.beq k j with
    | true => true
    | false => hasKey l k
noncomputable def hasVal : Mv → Nat → Bool
  | [], _ => false
  | (_, j) :: l, k => match Nat.beq k j with
    | true => true
    | false => hasVal l k
noncomputable def nodupV : Mv → Bool
  | [] => true
  | (_, k) :: l => !(hasVal l k) && nodupV l
noncomputable def okMv (μ : Mv) (h' : T AObj) (n : Nat) : Mv → Bool
  | [] => true
  | (j, k) :: l => Nat.ble 100 j && (Nat.ble 100 k && ((hasKey μ k || noneAt h' k) && okMv μ h' n l))
noncomputable def below {α : Type} (n : Nat) : T α → Nat → Nat → Bool
  | .leaf, _, _ => true
  | .node l o r, b, s => (match o with | none => true | some _ => Nat.blt b n) && (below n l (b + (s + s)) (s + s) && below n r (b + s) (s + s))
noncomputable def canonOK (μ : Mv) (σ : List SE) (n : Nat) (h' : T AObj) (h : T AObj) : Bool :=
  Nat.ble 100 n && (nodupV μ && (okMv μ h' n μ && (below n h' 0 1 && okT (okO (okV μ σ n 20)) h' (moved h μ))))
noncomputable def condR (s : SB) (b : Bool) : Bool := !b && (SB.eqb s (.cmp .gtr (.var 1) (.lit 1048576)) || (SB.eqb s (.cmp .lss (.var 1) (.lit 1)) || (SB.eqb s (.cmp .gtr (.var 0) (.lit 40)) || SB.eqb s (.cmp .lss (.var 0) (.lit 0)))))
noncomputable def condL (l : List (SB × Bool)) (s : SB) (b : Bool) : Bool := match l with
  | [] => false
  | (r, c) :: l => (SB.eqb s r && b == c) || condL l s b
noncomputable def condOK (lo hi : Int) (s : SB) (b : Bool) : Bool :=
  match s with
  | .cmp op x y => match op with
    | .lss => match x, y with
      | .var 2, .var 0 => b
      | _, _ => false
    | .gtr => match x, y with
      | .lit a, .var 1 => match b with
        | true => ilt hi a
        | false => !ilt lo a
      | .lit a, .bin op k (.var 1) (.lit u) => (op == .sub) && (keq k .i64 && (!ilt u 0 && (ilt u 1099511627776 && (match b with
        | true => ilt hi (Int.add a u)
        | false => !ilt lo (Int.add a u)))))
      | _, _ => false
    | _ => false
  | .not _ => false
noncomputable def condsOK (f : SB → Bool → Bool) : List (SB × Bool) → Bool
  | [] => true
  | (s, b) :: l => f s b && condsOK f l
noncomputable def pieceOK (f : SB → Bool → Bool) (μ : Mv) (σ : List SE) (n : Nat) (h : T AObj) (tm : T AV) (ex : Ex) : Res → Bool
  | .ok ex' tm' mk' st' => (match mk' with | [] => true | _ => false) && ((ex == ex') && (condsOK f st'.tr && (Nat.ble 100 st'.low && (canonOK μ σ n h st'.heap && okTm (okV μ σ n 20) tm tm'))))
  | .bad _ => false
noncomputable def ovKnown (h0 : T AObj) (v : AV) : Ov := fun args st => match args with
  | [] => match canonOK [] [] 100 h0 st.heap with
    | true => .ok (v, st)
    | false => err "known: another state"
  | _ => err "known: arguments"
end Go.Ab
