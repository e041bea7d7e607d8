/- A part of the proof: AbA, AbB, AbC, AbD, AbE, AbZ0. -/
import Derived.OrdersIn
import Derived.RangeFuncLeaves

set_option linter.unusedVariables false
set_option linter.unusedSimpArgs false

namespace Go.Ab
inductive T (α : Type) where
  | leaf
  | node (l : T α) (v : Option α) (r : T α)
namespace T
variable {α : Type}
noncomputable def get (t : T α) : Nat → Option α :=
  T.rec (fun _ => none) (fun _ v _ ihl ihr k => Nat.casesOn k v (fun k => Bool.casesOn (Nat.beq (Nat.mod k 2) 0) (ihl (Nat.div k 2)) (ihr (Nat.div k 2)))) t
noncomputable def single : Nat → Nat → α → T α
  | 0, _, v => .node .leaf (some v) .leaf
  | f + 1, k, v =>
    match k with
    | 0 => .node .leaf (some v) .leaf
    | k + 1 => match Nat.beq (Nat.mod k 2) 0 with
      | true => .node .leaf none (single f (Nat.div k 2) v)
      | false => .node (single f (Nat.div k 2) v) none .leaf
noncomputable def set : T α → Nat → α → T α
  | .leaf, k, v => single k k v
  | .node l o r, k, v =>
    match k with
    | 0 => .node l (some v) r
    | k + 1 => match Nat.beq (Nat.mod k 2) 0 with
      | true => .node l o (r.set (Nat.div k 2) v)
      | false => .node (l.set (Nat.div k 2) v) o r
noncomputable def singleK {β : Type} (f : Nat) : Nat → α → (T α → β) → β :=
  Nat.rec (fun _ v K => K (.node .leaf (some v) .leaf)) (fun _ ih k v K => Nat.casesOn k (K (.node .leaf (some v) .leaf)) (fun k => Bool.casesOn (Nat.beq (Nat.mod k 2) 0)
    (ih (Nat.div k 2) v fun l => K (.node l none .leaf)) (ih (Nat.div k 2) v fun r => K (.node .leaf none r)))) f
noncomputable def setK {β : Type} (t : T α) : Nat → α → (T α → β) → β :=
  T.rec (fun k v K => singleK k k v K) (fun l o r ihl ihr k v K => Nat.casesOn k (K (.node l (some v) r)) (fun k => Bool.casesOn (Nat.beq (Nat.mod k 2) 0)
    (ihl (Nat.div k 2) v fun l => K (.node l o r)) (ihr (Nat.div k 2) v fun r => K (.node l o r)))) t
noncomputable def del : T α → Nat → T α
  | .leaf, _ => .leaf
  | .node l o r, k =>
    match k with
    | 0 => .node l none r
    | k + 1 => match Nat.beq (Nat.mod k 2) 0 with
      | true => .node l o (r.del (Nat.div k 2))
      | false => .node (l.del (Nat.div k 2)) o r
noncomputable def ofList (t : T α) (i : Nat) : List α → T α
  | [] => t
  | x :: l => (t.set i x).ofList (i + 1) l
noncomputable def ofListK {β : Type} (t : T α) (i : Nat) (l : List α) (K : T α → β) : β :=
  match l with
  | [] => K t
  | x :: l => t.setK i x fun t => ofListK t (Nat.succ i) l K
end T
inductive SE where
  | lit (n : Int)
  | var (i : Nat)
  | bin (op : BinOp) (k : IntKind) (a b : SE)
  | conv (k : IntKind) (a : SE)
  deriving DecidableEq, Repr
inductive SB where
  | cmp (op : BinOp) (a b : SE)
  | not (b : SB)
  deriving DecidableEq, Repr
inductive AFn where
  | func (f : Nat)
  | yield (l : Nat)
  deriving DecidableEq, Repr
inductive AV where
  | bool (b : Bool)
  | sbool (s : SB)
  | int (k : IntKind) (n : Int)
  | sint (k : IntKind) (e : SE)
  | str (n bits : Nat)
  | nilptr
  | ptr (id off : Nat)
  | nilslice
  | slice (id off len cap : Nat) (ex : Bool) (esz : Nat)
  | nilmap
  | map (id : Nat)
  | func (fn : AFn) (first captured : List AV)
  | nilFunc
  | iface (t : Nat) (v : AV)
  | nilIface
  | agg (cells : List AV)
  | tuple (vs : List AV)
  | any
  deriving Repr, Inhabited
noncomputable def undef : AV := .tuple []
inductive CA where
  | t (t : Nat)
  | v (v : AV)
  deriving Repr, Inhabited
inductive Plan where
  | leaf (k : Nat)
  | fields (l : List (Nat × Option Nat × Plan))
  deriving Repr, Inhabited
inductive CO where
  | mv (x : CA)
  | pick (c a b : CA)
  | newc (elem : Nat) (cells : List AV)
  | box (elem : Nat) (x : CA)
  | build (zero : List AV) (parts : List (Nat × Nat × CA))
  | buildSlice (elem esz len : Nat) (zero : List AV) (parts : List (Nat × Nat × CA))
  | load1 (x : CA)
  | loadN (n : Nat) (x : CA)
  | store (n : Nat) (a x : CA)
  | nilCheck (x : CA)
  | bin (op : BinOp) (x y : CA)
  | eql (neg : Bool) (plan : Plan) (x y : CA)
  | un (op : UnOp) (x : CA)
  | convInt (k : IntKind) (x : CA)
  | same (x : CA)
  | strOfBytes (x : CA)
  | bytesOfStr (elem : Nat) (x : CA)
  | strOfInt (x : CA)
  | mkIface (t : Nat) (x : CA)
  | mkFunc (f : Nat) (first captured : List CA)
  | mkMap
  | mkSlice (elem esz bytes : Nat) (zero : List AV) (len cap : CA)
  | sliceStr (x : CA) (lo hi : Option CA)
  | sliceSl (esz : Nat) (x : CA) (lo hi mx : Option CA)
  | sliceArr (n esz : Nat) (x : CA) (lo hi mx : Option CA)
  | fieldAddr (off : Nat) (x : CA)
  | field (off : Nat) (n : Option Nat) (x : CA)
  | idxAddrArr (len esz : Nat) (x i : CA)
  | idxAddrSl (esz : Nat) (x i : CA)
  | idxArr (len esz : Nat) (n : Option Nat) (x i : CA)
  | idxStr (x i : CA)
  | lookup (s : Bool) (zero : AV) (ok : Bool) (m k : CA)
  | mapUpd (s : Bool) (m k v : CA)
  | range (isStr : Bool) (x : CA)
  | next (isStr : Bool) (it : CA)
  | entry (it : CA)
  | extract (i : Nat) (x : CA)
  | call (f : Nat) (args : List CA)
  | callV (f : CA) (args : List CA)
  | append (elem esz bytes : Nat) (x y : CA)
  | copy (esz : Nat) (x y : CA)
  | delete (s : Bool) (m k : CA)
  | clear (zero : List AV) (x : CA)
  | lenStr (x : CA)
  | lenSl (x : CA)
  | lenArr (n : Nat)
  | lenMap (x : CA)
  | capSl (x : CA)
  | min (l : List CA)
  | max (l : List CA)
  | sliceData (x : CA)
  | unsafeStr (elem : Nat) (p n : CA)
  | tyAssert (t : Nat) (ok : Bool) (x : CA)
  | unsafeTo (x : CA)
  | unsafeFrom (elem last : Nat) (x : CA)
  | bad (why : Nat)
  deriving Repr, Inhabited
structure COper where
  dst : Option Nat
  op : CO
  guard : Option (CA × Bool)
  anc : Nat
  deriving Repr, Inhabited
inductive CCode where
  | skip
  | ret
  | exit (id : Nat)
  | region (ops : List COper)
  | draw (ops : List COper)
  | seq (a b : CCode)
  | cond (c : CA) (thn els : CCode)
  | block (id : Nat) (body : CCode)
  | loop (body : CCode)
  | rangeFunc (f : CA) (params : List Nat) (assign body : CCode)
  | fail
  deriving Repr, Inhabited
inductive CRes where
  | tmp (t : Nat)
  | cell (t : Nat) (n : Option Nat)
  deriving Repr, Inhabited
structure CFunc where
  ntmps : Nat
  results : List CRes
  body : CCode
  deriving Repr, Inhabited
inductive Ex where
  | normal
  | exit (id : Nat)
  | ret
  deriving DecidableEq, Repr
structure Loop where
  busy : Bool
  over : Bool
  pending : Option Ex
  tm : T AV
  params : List Nat
  assign : CCode
  body : CCode
inductive AObj where
  | cells (elem : Option Nat) (cs : T AV) (fz : Nat)
  | map (es : List (AV × AV × Nat)) (clock : Nat)
  | strIter (n bits pos : Nat)
  | mapIter (m : Option Nat) (since : Nat) (seen : List Nat) (last : Nat)
  | loop (l : Loop)
  | defr
structure St where
  heap : T AObj
  next : Nat
  low : Nat
  sc : List Bool
  tr : List (SB × Bool)
abbrev M (α : Type) := Except String α
noncomputable def AV.cells : AV → List AV
  | .agg cs => cs
  | v => [v]
noncomputable def keq (a b : IntKind) : Bool := match a, b with
  | .i8, .i8 | .i16, .i16 | .i32, .i32 | .i64, .i64 | .u8, .u8 | .u16, .u16 | .u32, .u32 | .u64, .u64 => true
  | _, _ => false
mutual
noncomputable def AV.beq : AV → AV → Bool
  | .bool a, .bool b => a == b
  | .sbool a, .sbool b => decide (a = b)
  | .int k a, .int j b => decide (k = j) && decide (a = b)
  | .sint k a, .sint j b => decide (k = j) && decide (a = b)
  | .str n a, .str m b => Nat.beq n m && Nat.beq a b
  | .nilptr, .nilptr => true
  | .ptr a b, .ptr c d => Nat.beq a c && Nat.beq b d
  | .nilslice, .nilslice => true
  | .slice a b c d x e, .slice a' b' c' d' x' e' => Nat.beq a a' && Nat.beq b b' && Nat.beq c c' && Nat.beq d d' && x == x' && Nat.beq e e'
  | .nilmap, .nilmap => true
  | .map a, .map b => Nat.beq a b
  | .func f a b, .func g c d => decide (f = g) && AV.beqs a c && AV.beqs b d
  | .nilFunc, .nilFunc => true
  | .iface t v, .iface u w => Nat.beq t u && AV.beq v w
  | .nilIface, .nilIface => true
  | .agg a, .agg b => AV.beqs a b
  | .tuple a, .tuple b => AV.beqs a b
  | _, _ => false
noncomputable def AV.beqs : List AV → List AV → Bool
  | [], [] => true
  | a :: l, b :: m => AV.beq a b && AV.beqs l m
  | _, _ => false
end
mutual
noncomputable def AV.flat : AV → Bool
  | .ptr .. | .slice .. | .map _ | .func .. => false
  | .iface _ v => v.flat
  | .agg l | .tuple l => AV.flats l
  | _ => true
noncomputable def AV.flats : List AV → Bool
  | [] => true
  | a :: l => a.flat && AV.flats l
end
noncomputable def half (k : IntKind) : Nat := match k with
  | .i8 => 128 | .i16 => 32768 | .i32 => 2147483648 | .i64 => 9223372036854775808 | .u8 => 256 | .u16 => 65536 | .u32 => 4294967296 | .u64 => 18446744073709551616
noncomputable def fwrap (k : IntKind) (n : Int) : Int :=
  match n with
  | .ofNat a => match Nat.blt a (half k) with
    | true => .ofNat a
    | false => k.wrap (.ofNat a)
  | .negSucc a => match Nat.blt a (half k) && k.signed with
    | true => .negSucc a
    | false => k.wrap (.negSucc a)
noncomputable def ieqN (a : Nat) : Int → Bool
  | .ofNat b => Nat.beq a b
  | .negSucc _ => false
noncomputable def ieqS (a : Nat) : Int → Bool
  | .ofNat _ => false
  | .negSucc b => Nat.beq a b
noncomputable def ieq : Int → Int → Bool
  | .ofNat a => ieqN a
  | .negSucc a => ieqS a
noncomputable def iltN (a : Nat) : Int → Bool
  | .ofNat b => Nat.blt a b
  | .negSucc _ => false
noncomputable def iltS (a : Nat) : Int → Bool
  | .ofNat _ => true
  | .negSucc b => Nat.blt b a
noncomputable def ilt : Int → Int → Bool
  | .ofNat a => iltN a
  | .negSucc a => iltS a
noncomputable def forceN {β : Type} (n : Nat) (K : Nat → β) : β := match n with
  | 0 => K 0
  | n + 1 => K (Nat.succ n)
noncomputable def forceI {β : Type} (n : Int) (K : Int → β) : β := match n with
  | .ofNat a => forceN a fun a => K (.ofNat a)
  | .negSucc a => forceN a fun a => K (.negSucc a)
noncomputable def binI (op : BinOp) (k : IntKind) (a b : Int) : Option Int :=
  match op with
  | .add => some (k.wrap (a + b))
  | .sub => some (k.wrap (a - b))
  | .mul => some (k.wrap (a * b))
  | .quo => if b = 0 then none else some (k.wrap (a.tdiv b))
  | .rem => if b = 0 then none else some (a.tmod b)
  | .and => some (k.wrap (BitVec.ofInt k.bits a &&& BitVec.ofInt k.bits b).toNat)
  | .or => some (k.wrap (BitVec.ofInt k.bits a ||| BitVec.ofInt k.bits b).toNat)
  | .xor => some (k.wrap (BitVec.ofInt k.bits a ^^^ BitVec.ofInt k.bits b).toNat)
  | .andNot => some (k.wrap (BitVec.ofInt k.bits a &&& ~~~ BitVec.ofInt k.bits b).toNat)
  | .shl => if b < 0 then none else some (k.wrap (a * 2 ^ (Nat.min b.toNat k.bits)))
  | .shr => if b < 0 then none else some (a.fdiv (2 ^ (Nat.min b.toNat k.bits)))
  | _ => none
noncomputable def fAdd (k : IntKind) (a b : Int) : Option Int := some (fwrap k (Int.add a b))
noncomputable def fSub (k : IntKind) (a b : Int) : Option Int := some (fwrap k (Int.sub a b))
noncomputable def fMul (k : IntKind) (a b : Int) : Option Int := some (fwrap k (Int.mul a b))
noncomputable def fQuo (k : IntKind) (a b : Int) : Option Int := match a, b with
  | .ofNat a, .ofNat (b + 1) => some (fwrap k (.ofNat (Nat.div a (Nat.succ b))))
  | a, b => binI .quo k a b
noncomputable def fRem (k : IntKind) (a b : Int) : Option Int := match a, b with
  | .ofNat a, .ofNat (b + 1) => some (.ofNat (Nat.mod a (Nat.succ b)))
  | a, b => binI .rem k a b
noncomputable def fBits (op : BinOp) (f : Nat → Nat → Nat) (k : IntKind) (a b : Int) : Option Int := match a, b with
  | .ofNat a, .ofNat b => match Nat.blt a (half k) && Nat.blt b (half k) with
    | true => some (.ofNat (f a b))
    | false => binI op k (.ofNat a) (.ofNat b)
  | a, b => binI op k a b
noncomputable def fShl (k : IntKind) (a b : Int) : Option Int := match b with
  | .ofNat b => match Nat.blt b k.bits with
    | true => some (fwrap k (Int.mul a (.ofNat (Nat.pow 2 b))))
    | false => binI .shl k a (.ofNat b)
  | b => binI .shl k a b
noncomputable def fShr (k : IntKind) (a b : Int) : Option Int := match a, b with
  | .ofNat a, .ofNat b => match Nat.blt b k.bits with
    | true => some (.ofNat (Nat.shiftRight a b))
    | false => binI .shr k (.ofNat a) (.ofNat b)
  | a, b => binI .shr k a b
noncomputable def fNone (_ : IntKind) (_ _ : Int) : Option Int := none
noncomputable def fbin (op : BinOp) : IntKind → Int → Int → Option Int :=
  match op with
  | .add => fAdd
  | .sub => fSub
  | .mul => fMul
  | .quo => fQuo
  | .rem => fRem
  | .and => fBits .and Nat.land
  | .or => fBits .or Nat.lor
  | .xor => fBits .xor Nat.xor
  | .andNot => binI .andNot
  | .shl => fShl
  | .shr => fShr
  | _ => fNone
noncomputable def cEq (a b : Int) : Option Bool := some (ieq a b)
noncomputable def cNe (a b : Int) : Option Bool := some (!ieq a b)
noncomputable def cLt (a b : Int) : Option Bool := some (ilt a b)
noncomputable def cLe (a b : Int) : Option Bool := some (!ilt b a)
noncomputable def cGt (a b : Int) : Option Bool := some (ilt b a)
noncomputable def cGe (a b : Int) : Option Bool := some (!ilt a b)
noncomputable def cNone (_ _ : Int) : Option Bool := none
noncomputable def cmpI (op : BinOp) : Int → Int → Option Bool :=
  match op with
  | .eql => cEq
  | .neq => cNe
  | .lss => cLt
  | .leq => cLe
  | .gtr => cGt
  | .geq => cGe
  | _ => cNone
noncomputable def opKind : BinOp → Nat
  | .eql | .neq | .lss | .leq | .gtr | .geq => 0
  | .shl | .shr => 1
  | _ => 2
noncomputable def symOp (op : BinOp) (b : SE) : Bool :=
  match op with
  | .add | .sub | .mul | .and | .or | .xor | .andNot => true
  | .quo | .rem => match b with | .lit n => !ieq n 0 | _ => false
  | .shl | .shr => match b with | .lit n => !ilt n 0 | _ => false
  | _ => false
noncomputable def byteAt (bits i : Nat) : Nat := Nat.mod (Nat.shiftRight bits (Nat.mul 8 i)) 256
noncomputable def unpack : Nat → Nat → List UInt8
  | 0, _ => []
  | n + 1, b => UInt8.ofNat (b % 256) :: unpack n (b / 256)
end Go.Ab

namespace Go.Ab
abbrev CallV := AFn → List AV → St → M (AV × St)
abbrev OpF := T AV → St → CallV → M (AV × St)
noncomputable def evA (tm : T AV) : CA → AV
  | .t t => match tm.get t with
    | some v => v
    | none => .any
  | .v v => v
noncomputable def evAs (tm : T AV) : List CA → List AV
  | [] => []
  | x :: l => evA tm x :: evAs tm l
noncomputable def orUndef {β : Type} (K : AV → β) : Option AV → β
  | some v => K v
  | none => K .any
noncomputable def evAK {β : Type} (x : CA) (tm : T AV) (K : AV → β) : β :=
  match x with
  | .t t => orUndef K (tm.get t)
  | .v v => K v
noncomputable def evAsK {β : Type} (l : List CA) (tm : T AV) (K : List AV → β) : β :=
  match l with
  | [] => K []
  | x :: l => evAK x tm fun v => evAsK l tm fun vs => K (v :: vs)
noncomputable def St.newK {β : Type} (st : St) (o : AObj) (K : Nat → St → β) : β :=
  match st with
  | ⟨h, n, lo, sc, tr⟩ => h.setK n o fun h => forceN (Nat.add n 1) fun n' => K n ⟨h, n', lo, sc, tr⟩
noncomputable def St.new (st : St) (o : AObj) : Nat × St :=
  (st.next, { st with heap := st.heap.set st.next o, next := st.next + 1 })
noncomputable def lowered (low id : Nat) : Nat := match Nat.ble low id with
  | true => low
  | false => id
noncomputable def St.putK {β : Type} (st : St) (id : Nat) (o : AObj) (K : St → β) : β :=
  match st with
  | ⟨h, n, lo, sc, tr⟩ => h.setK id o fun h => match Nat.ble lo id with
    | true => K ⟨h, n, lo, sc, tr⟩
    | false => K ⟨h, n, id, sc, tr⟩
noncomputable def St.put (st : St) (id : Nat) (o : AObj) : St :=
  { st with heap := st.heap.set id o, low := lowered st.low id }
noncomputable def St.kill (st : St) (id : Nat) : St :=
  match st with
  | ⟨h, n, lo, sc, tr⟩ => ⟨h.del id, n, lowered lo id, sc, tr⟩
noncomputable def decK {β : Type} (v : AV) (st : St) (K : Bool → St → M β) : M β :=
  match v with
  | .bool b => K b st
  | .sbool s => match st with
    | ⟨h, n, lo, d :: sc, tr⟩ => K d ⟨h, n, lo, sc, (s, d) :: tr⟩
    | _ => .error "the script is over"
  | _ => .error "no bool"
noncomputable def err (s : String) : M (AV × St) := .error s
noncomputable def retI (k : IntKind) (st : St) : Option Int → M (AV × St)
  | some r => forceI r fun r => .ok (.int k r, st)
  | none => err "numbers"
noncomputable def retB (st : St) : Option Bool → M (AV × St)
  | some true => .ok (.bool true, st)
  | some false => .ok (.bool false, st)
  | none => err "test"
noncomputable def strAdd (n a m b : Nat) (st : St) : M (AV × St) :=
  match Nat.blt (Nat.add n m) 9223372036854775808 with
  | true => forceN (Nat.add n m) fun l => forceN (Nat.add a (Nat.shiftLeft b (Nat.mul 8 n))) fun x => .ok (.str l x, st)
  | false => err "long string"
noncomputable def strLess : Nat → Nat → Nat → Nat → Nat → Bool
  | 0, _, _, _, _ => false
  | f + 1, n, a, m, b =>
    match m with
    | 0 => false
    | m + 1 => match n with
      | 0 => true
      | n + 1 => match Nat.blt (Nat.mod a 256) (Nat.mod b 256) with
        | true => true
        | false => match Nat.beq (Nat.mod a 256) (Nat.mod b 256) with
          | true => strLess f n (Nat.div a 256) m (Nat.div b 256)
          | false => false
noncomputable def evStr (op : BinOp) (n a m b : Nat) (st : St) : M (AV × St) :=
  match op with
  | .add => strAdd n a m b st
  | .eql => retB st (some (Nat.beq n m && Nat.beq a b))
  | .neq => retB st (some (!(Nat.beq n m && Nat.beq a b)))
  | .lss => retB st (some (strLess (Nat.succ n) n a m b))
  | .gtr => retB st (some (strLess (Nat.succ m) m b n a))
  | .leq => retB st (some (!strLess (Nat.succ m) m b n a))
  | .geq => retB st (some (!strLess (Nat.succ n) n a m b))
  | _ => err "string operation"
noncomputable def symBin (op : BinOp) (k : IntKind) (a : SE) (j : IntKind) (b : SE) (st : St) : M (AV × St) :=
  match opKind op with
  | 0 => match keq k j with
    | true => .ok (.sbool (.cmp op a b), st)
    | false => err "kinds"
  | 1 => match symOp op b with
    | true => .ok (.sint k (.bin op k a b), st)
    | false => err "symbolic shift"
  | _ => match symOp op b && keq k j with
    | true => .ok (.sint k (.bin op k a b), st)
    | false => err "symbolic operation"
noncomputable def binInt (op : BinOp) (k : IntKind) (a : Int) (y : AV) (st : St) : M (AV × St) :=
  match y with
  | .int j b => match opKind op with
    | 0 => match keq k j with
      | true => retB st (cmpI op a b)
      | false => err "kinds"
    | 1 => retI k st (fbin op k a b)
    | _ => match keq k j with
      | true => retI k st (fbin op k a b)
      | false => err "kinds"
  | .sint j b => symBin op k (.lit a) j b st
  | _ => err "bin: operands"
noncomputable def binSym (op : BinOp) (k : IntKind) (a : SE) (y : AV) (st : St) : M (AV × St) :=
  match y with
  | .int j b => symBin op k a j (.lit b) st
  | .sint j b => symBin op k a j b st
  | _ => err "bin: operands"
noncomputable def binStr (op : BinOp) (n a : Nat) (y : AV) (st : St) : M (AV × St) :=
  match y with
  | .str m b => evStr op n a m b st
  | _ => err "bin: operands"
noncomputable def evBin (op : BinOp) (x y : AV) (st : St) : M (AV × St) :=
  match x with
  | .int k a => binInt op k a y st
  | .sint k a => binSym op k a y st
  | .str n a => binStr op n a y st
  | _ => err "bin: operands"
noncomputable def eqInt (k : IntKind) (a : Int) : AV → M AV
  | .int j b => match keq k j with
    | true => .ok (.bool (ieq a b))
    | false => .error "kinds"
  | .sint j b => match keq k j with
    | true => .ok (.sbool (.cmp .eql (.lit a) b))
    | false => .error "kinds"
  | _ => .error "eql"
noncomputable def eqSint (k : IntKind) (a : SE) : AV → M AV
  | .int j b => match keq k j with
    | true => .ok (.sbool (.cmp .eql a (.lit b)))
    | false => .error "kinds"
  | .sint j b => match keq k j with
    | true => .ok (.sbool (.cmp .eql a b))
    | false => .error "kinds"
  | _ => .error "eql"
noncomputable def eqStr (n a : Nat) : AV → M AV
  | .str m b => .ok (.bool (Nat.beq n m && Nat.beq a b))
  | _ => .error "eql"
noncomputable def eqBool (a : Bool) : AV → M AV
  | .bool b => .ok (.bool (a == b))
  | _ => .error "eql"
noncomputable def eqNilptr : AV → M AV
  | .nilptr => .ok (.bool true)
  | .ptr _ _ => .ok (.bool false)
  | _ => .error "eql"
noncomputable def eqPtr (a b : Nat) : AV → M AV
  | .nilptr => .ok (.bool false)
  | .ptr c d => match Nat.beq a c && Nat.beq b d with
    | true => .ok (.bool true)
    | false => .error "two places"
  | _ => .error "eql"
noncomputable def eqNilIface : AV → M AV
  | .nilIface => .ok (.bool true)
  | .iface _ _ => .ok (.bool false)
  | _ => .error "eql"
noncomputable def eqIface : AV → M AV
  | .nilIface => .ok (.bool false)
  | _ => .error "eql: two interface values"
noncomputable def eqNilSl : AV → M AV
  | .nilslice => .ok (.bool true)
  | .slice .. => .ok (.bool false)
  | _ => .error "eql"
noncomputable def eqSl : AV → M AV
  | .nilslice => .ok (.bool false)
  | _ => .error "eql"
noncomputable def eqNilMap : AV → M AV
  | .nilmap => .ok (.bool true)
  | .map _ => .ok (.bool false)
  | _ => .error "eql"
noncomputable def eqMap : AV → M AV
  | .nilmap => .ok (.bool false)
  | _ => .error "eql"
noncomputable def eqNilF : AV → M AV
  | .nilFunc => .ok (.bool true)
  | .func .. => .ok (.bool false)
  | _ => .error "eql"
noncomputable def eqF : AV → M AV
  | .nilFunc => .ok (.bool false)
  | _ => .error "eql"
noncomputable def eqB : AV → AV → M AV
  | .bool a => eqBool a
  | _ => fun _ => .error "eql"
noncomputable def eqI : AV → AV → M AV
  | .int k a => eqInt k a
  | .sint k a => eqSint k a
  | _ => fun _ => .error "eql"
noncomputable def eqS : AV → AV → M AV
  | .str n a => eqStr n a
  | _ => fun _ => .error "eql"
noncomputable def eqP : AV → AV → M AV
  | .nilptr => eqNilptr
  | .ptr a b => eqPtr a b
  | _ => fun _ => .error "eql"
noncomputable def eqIf : AV → AV → M AV
  | .nilIface => eqNilIface
  | .iface _ _ => eqIface
  | _ => fun _ => .error "eql"
noncomputable def eqSlc : AV → AV → M AV
  | .nilslice => eqNilSl
  | .slice .. => eqSl
  | _ => fun _ => .error "eql"
noncomputable def eqMp : AV → AV → M AV
  | .nilmap => eqNilMap
  | .map _ => eqMap
  | _ => fun _ => .error "eql"
noncomputable def eqFn : AV → AV → M AV
  | .nilFunc => eqNilF
  | .func .. => eqF
  | _ => fun _ => .error "eql"
noncomputable def eqLeaf (k : Nat) : AV → AV → M AV :=
  match k with
  | 0 => eqB
  | 1 => eqI
  | 2 => eqS
  | 3 => eqP
  | 4 => eqSlc
  | 5 => eqMp
  | 6 => eqFn
  | _ => eqIf
noncomputable def takeCells : Nat → List AV → Option (List AV)
  | 0, _ => some []
  | n + 1, x :: l => match takeCells n l with
    | some r => some (x :: r)
    | none => none
  | _ + 1, [] => none
noncomputable def dropL {α : Type} : Nat → List α → List α
  | 0, l => l
  | n + 1, l => match l with
    | [] => []
    | _ :: l => dropL n l
noncomputable def partOf (cs : List AV) (off : Nat) (n : Option Nat) : Option AV :=
  match n with
  | none => match dropL off cs with
    | v :: _ => some v
    | [] => none
  | some n => match takeCells n (dropL off cs) with
    | some l => some (.agg l)
    | none => none
mutual
noncomputable def evEq : Plan → AV → AV → M AV
  | .leaf k, x, y => eqLeaf k x y
  | .fields l, .agg xs, .agg ys => evEqs l xs ys
  | .fields _, _, _ => .error "eql: agg"
noncomputable def evEqs : List (Nat × Option Nat × Plan) → List AV → List AV → M AV
  | [], _, _ => .ok (.bool true)
  | (off, n, p) :: l, xs, ys =>
    match partOf xs off n, partOf ys off n with
    | some x, some y => match evEq p x y with
      | .ok (.bool true) => evEqs l xs ys
      | .ok (.bool false) => .ok (.bool false)
      | .ok _ => .error "eql: symbolic part"
      | .error e => .error e
    | _, _ => .error "eql: part"
end
noncomputable def notA (st : St) : AV → M (AV × St)
  | .bool true => .ok (.bool false, st)
  | .bool false => .ok (.bool true, st)
  | .sbool s => .ok (.sbool (.not s), st)
  | _ => err "not"
noncomputable def retEq (neg : Bool) (st : St) : M AV → M (AV × St)
  | .ok (.bool true) => match neg with
    | true => .ok (.bool false, st)
    | false => .ok (.bool true, st)
  | .ok (.bool false) => match neg with
    | true => .ok (.bool true, st)
    | false => .ok (.bool false, st)
  | .ok (.sbool s) => match neg with
    | true => .ok (.sbool (.not s), st)
    | false => .ok (.sbool s, st)
  | .ok _ => err "eql"
  | .error e => .error e
noncomputable def setList {α : Type} : List α → Nat → α → List α
  | [], _, _ => []
  | x :: l, i, v => match i with
    | 0 => v :: l
    | n + 1 => x :: setList l n v
noncomputable def layCells (cs : List AV) (off : Nat) : List AV → List AV
  | [] => cs
  | v :: l => layCells (setList cs off v) (off + 1) l
noncomputable def lenL {α : Type} : List α → Nat
  | [] => 0
  | _ :: l => Nat.succ (lenL l)
noncomputable def fillParts (tm : T AV) (cs : List AV) : List (Nat × Nat × CA) → Option (List AV)
  | [] => some cs
  | (off, size, x) :: l =>
    match Nat.beq (lenL (evA tm x).cells) size && Nat.ble (off + size) (lenL cs) with
    | true => fillParts tm (layCells cs off (evA tm x).cells) l
    | false => none
noncomputable def repL (zero : List AV) : Nat → List AV
  | 0 => []
  | n + 1 => zero ++ repL zero n
noncomputable def bound (x : AV) (y : Nat) : Option Nat :=
  match x with
  | .int _ (.ofNat n) => match Nat.ble n y with
    | true => some n
    | false => none
  | _ => none
noncomputable def optB (x : Option CA) (tm : T AV) (y d : Nat) : Option Nat :=
  match x with
  | some x => bound (evA tm x) y
  | none => some d
noncomputable def loadFrom (cs : T AV) (off : Nat) : Nat → Option (List AV)
  | 0 => some []
  | n + 1 => match cs.get off with
    | some v => match loadFrom cs (Nat.succ off) n with
      | some l => some (v :: l)
      | none => none
    | none => none
noncomputable def AV.one : AV → Bool
  | .agg _ | .tuple _ | .any => false
  | _ => true
noncomputable def allOne : List AV → Bool
  | [] => true
  | v :: l => match v.one with
    | true => allOne l
    | false => false
noncomputable def storeFrom (cs : T AV) (off : Nat) : List AV → Option (T AV)
  | [] => some cs
  | v :: l => match v.one with
    | false => none
    | true => match cs.get off with
      | some _ => cs.setK off v fun cs => storeFrom cs (Nat.succ off) l
      | none => none
noncomputable def cellsOf (h : T AObj) (id : Nat) : Option (Option Nat × T AV × Nat) :=
  match h.get id with
  | some (.cells e cs fz) => some (e, cs, fz)
  | _ => none
noncomputable def load1At (h : T AObj) (id off : Nat) : Option AV :=
  match h.get id with
  | some (.cells _ cs _) => cs.get off
  | _ => none
noncomputable def loadNAt (h : T AObj) (id off n : Nat) : Option AV :=
  match h.get id with
  | some (.cells _ cs _) => match loadFrom cs off n with
    | some l => some (.agg l)
    | none => none
  | _ => none
noncomputable def loadAt (h : T AObj) (p : AV) (n : Option Nat) : Option AV :=
  match p with
  | .ptr id off => match n with
    | none => load1At h id off
    | some n => loadNAt h id off n
  | _ => none
noncomputable def retL (st : St) : Option AV → M (AV × St)
  | some v => .ok (v, st)
  | none => err "load"
noncomputable def sameKey (x y : AV) : Option Bool :=
  match x with
  | .int k a => match y with
    | .int j b => match keq k j with
      | true => some (ieq a b)
      | false => none
    | _ => none
  | .str n a => match y with
    | .str m b => some (Nat.beq n m && Nat.beq a b)
    | _ => none
  | _ => none
noncomputable def keyIs (s : Bool) (k : AV) : Bool := match s with
  | true => match k with
    | .str _ _ => true
    | _ => false
  | false => match k with
    | .int _ _ => true
    | _ => false
noncomputable def findKey (k : AV) : List (AV × AV × Nat) → Nat → Option (Option (Nat × AV))
  | [], _ => match k with
    | .int _ _ | .str _ _ => some none
    | _ => none
  | (x, v, _) :: l, i => match sameKey k x with
    | some true => some (some (i, v))
    | some false => findKey k l (i + 1)
    | none => none
noncomputable def setEntry : List (AV × AV × Nat) → Nat → AV → AV → List (AV × AV × Nat)
  | [], _, _, _ => []
  | (x, w, b) :: l, i, k, v => match i with
    | 0 => (k, v, b) :: l
    | n + 1 => (x, w, b) :: setEntry l n k v
noncomputable def delEntry : List (AV × AV × Nat) → Nat → List (AV × AV × Nat)
  | [], _ => []
  | e :: l, i => match i with
    | 0 => l
    | n + 1 => e :: delEntry l n
noncomputable def snoc {α : Type} : List α → α → List α
  | [], x => [x]
  | y :: l, x => y :: snoc l x
noncomputable def packFrom (cs : T AV) (off sh : Nat) (acc : Nat) : Nat → Option Nat
  | 0 => some acc
  | n + 1 => match cs.get off with
    | some (.int .u8 (.ofNat b)) => match Nat.blt b 256 with
      | true => forceN (Nat.add acc (Nat.shiftLeft b sh)) fun acc => packFrom cs (Nat.succ off) (Nat.add sh 8) acc n
      | false => none
    | _ => none
noncomputable def bytesL (bits : Nat) : Nat → List AV
  | 0 => []
  | n + 1 => .int .u8 (.ofNat (Nat.mod bits 256)) :: bytesL (Nat.shiftRight bits 8) n
noncomputable def srcCells (h : T AObj) (esz : Nat) : AV → Option (Nat × List AV)
  | .nilslice => some (0, [])
  | .slice id off n _ _ e => match n with
    | 0 => some (0, [])
    | _ => match Nat.beq e esz with
      | true => match cellsOf h id with
        | some (_, cs, _) => match loadFrom cs off (Nat.mul n esz) with
          | some l => some (n, l)
          | none => none
        | none => none
      | false => none
  | .str n b => match Nat.beq esz 1 with
    | true => some (n, bytesL b n)
    | false => none
  | _ => none
noncomputable def elemJoin (e : Option Nat) (elem off : Nat) : Option Nat := match e with
  | some x => match Nat.beq x elem && Nat.beq off 0 with
    | true => some elem
    | false => none
  | none => none
noncomputable def opMv (x : CA) : OpF := fun tm st _ => evAK x tm fun v => .ok (v, st)
noncomputable def opPick (c a b : CA) : OpF := fun tm st _ => evAK c tm fun c => decK c st fun d st => match d with
  | true => evAK a tm fun v => .ok (v, st)
  | false => evAK b tm fun v => .ok (v, st)
noncomputable def opNewc (elem : Nat) (cells : List AV) : OpF := fun _ st _ => T.leaf.ofListK 0 cells fun t => st.newK (.cells (some elem) t 0) fun id st => .ok (.ptr id 0, st)
noncomputable def opBox (elem : Nat) (x : CA) : OpF := fun tm st _ => evAK x tm fun v => T.leaf.ofListK 0 v.cells fun t => st.newK (.cells (some elem) t 0) fun id st => .ok (.ptr id 0, st)
noncomputable def opBuild (zero : List AV) (parts : List (Nat × Nat × CA)) : OpF := fun tm st _ => match fillParts tm zero parts with
  | some cs => .ok (.agg cs, st)
  | none => err "build"
noncomputable def opBuildSlice (elem esz len : Nat) (zero : List AV) (parts : List (Nat × Nat × CA)) : OpF := fun tm st _ => match fillParts tm (repL zero len) parts with
  | some cs => match Nat.ble (len * esz) 16777216 with
    | true => T.leaf.ofListK 0 cs fun t => st.newK (.cells (some elem) t 0) fun id st => .ok (.slice id 0 len len true esz, st)
    | false => err "buildSlice"
  | none => err "buildSlice"
noncomputable def opLoad1 (x : CA) : OpF := fun tm st _ => evAK x tm fun p => retL st (loadAt st.heap p none)
noncomputable def opLoadN (n : Nat) (x : CA) : OpF := fun tm st _ => evAK x tm fun p => retL st (loadAt st.heap p (some n))
noncomputable def storeAt (n : Nat) (id off : Nat) (v : AV) (st : St) : M (AV × St) :=
  match cellsOf st.heap id with
  | some (e, cs, fz) => match Nat.beq (lenL v.cells) n && Nat.ble fz off with
    | true => match storeFrom cs off v.cells with
      | some cs => st.putK id (.cells e cs fz) fun st => .ok (undef, st)
      | none => err "store: no cell"
    | false => err "store: size"
  | none => err "store: no such object"
noncomputable def opStore (n : Nat) (a x : CA) : OpF := fun tm st _ => evAK a tm fun p => match p with
  | .ptr id off => evAK x tm fun v => storeAt n id off v st
  | _ => err "store: no place"
noncomputable def opNilCheck (x : CA) : OpF := fun tm st _ => evAK x tm fun v => match v with
  | .ptr a b => .ok (.ptr a b, st)
  | .func f a b => .ok (.func f a b, st)
  | .iface t v => .ok (.iface t v, st)
  | _ => err "nil"
noncomputable def opBin (op : BinOp) (x y : CA) : OpF := fun tm st _ => evAK x tm fun x => evAK y tm fun y => evBin op x y st
noncomputable def opEql (neg : Bool) (p : Plan) (x y : CA) : OpF := fun tm st _ => evAK x tm fun x => evAK y tm fun y => retEq neg st (evEq p x y)
noncomputable def opUn (op : UnOp) (x : CA) : OpF := fun tm st _ => evAK x tm fun v => match op with
  | .not => notA st v
  | .neg => match v with
    | .int k n => retI k st (fSub k 0 n)
    | .sint k e => .ok (.sint k (.bin .sub k (.lit 0) e), st)
    | _ => err "neg"
  | .xor => match v with
    | .int k n => retI k st (binI .xor k (if k.signed then -1 else k.max) n)
    | _ => err "xor"
  | .plus => err "plus"
noncomputable def opConvInt (k : IntKind) (x : CA) : OpF := fun tm st _ => evAK x tm fun v => match v with
  | .int _ n => retI k st (some (fwrap k n))
  | .sint _ e => .ok (.sint k (.conv k e), st)
  | _ => err "conv"
noncomputable def opSame (x : CA) : OpF := fun tm st _ => evAK x tm fun v => match v with
  | .str n b => .ok (.str n b, st)
  | _ => err "same"
noncomputable def evStrOfBytes (v : AV) (st : St) : M (AV × St) := match v with
  | .nilslice => .ok (.str 0 0, st)
  | .slice id off n _ _ _ => match cellsOf st.heap id with
    | some (_, cs, _) => match packFrom cs off 0 0 n with
      | some b => .ok (.str n b, st)
      | none => err "string: cells"
    | none => err "string: no such object"
  | _ => err "string"
noncomputable def opStrOfBytes (x : CA) : OpF := fun tm st _ => evAK x tm fun v => evStrOfBytes v st
noncomputable def opBytesOfStr (elem : Nat) (x : CA) : OpF := fun tm st _ => evAK x tm fun v => match v with
  | .str n b => match Nat.ble n 70368744177664 with
    | true => T.leaf.ofListK 0 (bytesL b n) fun t => st.newK (.cells none t 0) fun id st => .ok (.slice id 0 n n false 1, st)
    | false => err "bytes"
  | _ => err "bytes"
noncomputable def opStrOfInt (x : CA) : OpF := fun tm st _ => evAK x tm fun v => match v with
  | .int _ (.ofNat n) => match Nat.blt n 128 with
    | true => .ok (.str 1 n, st)
    | false => err "rune"
  | _ => err "rune"
noncomputable def opMkIface (t : Nat) (x : CA) : OpF := fun tm st _ => evAK x tm fun v => .ok (.iface t v, st)
noncomputable def opMkFunc (f : Nat) (a b : List CA) : OpF := fun tm st _ => evAsK a tm fun a => evAsK b tm fun b => .ok (.func (.func f) a b, st)
noncomputable def opMkMap : OpF := fun _ st _ => st.newK (.map [] 0) fun id st => .ok (.map id, st)
noncomputable def opMkSlice (elem esz bytes : Nat) (zero : List AV) (len cap : CA) : OpF := fun tm st _ => evAK len tm fun len => evAK cap tm fun cap => match len with
  | .int _ (.ofNat l) => match cap with
    | .int _ (.ofNat c) => match Nat.ble l c && Nat.ble (c * bytes) 70368744177664 && Nat.blt c 9223372036854775808 with
      | true => T.leaf.ofListK 0 (repL zero c) fun t => st.newK (.cells (some elem) t 0) fun id st => .ok (.slice id 0 l c true esz, st)
      | false => err "make"
    | _ => err "make"
  | _ => err "make"
noncomputable def opSliceStr (x : CA) (lo hi : Option CA) : OpF := fun tm st _ => evAK x tm fun v => match v with
  | .str n b => match optB hi tm n n with
    | some h => match optB lo tm h 0 with
      | some l => forceN (Nat.sub h l) fun m => forceN (Nat.mod (Nat.shiftRight b (Nat.mul 8 l)) (Nat.pow 2 (Nat.mul 8 m))) fun x => .ok (.str m x, st)
      | none => err "slice lo"
    | none => err "slice hi"
  | _ => err "slice str"
noncomputable def sliceOf (id off len cap : Nat) (ex : Bool) (esz : Nat) (tm : T AV) (lo hi : Option CA) (st : St) : M (AV × St) :=
  match optB hi tm cap len with
  | some h => match optB lo tm h 0 with
    | some l => forceN (Nat.add off (Nat.mul l esz)) fun o => forceN (Nat.sub h l) fun n => forceN (Nat.sub cap l) fun c => .ok (.slice id o n c ex esz, st)
    | none => err "slice lo"
  | none => err "slice hi"
noncomputable def sliceNil (tm : T AV) (lo hi mx : Option CA) (st : St) : M (AV × St) :=
  match optB mx tm 0 0 with
  | some _ => match optB hi tm 0 0 with
    | some _ => match optB lo tm 0 0 with
      | some _ => .ok (.nilslice, st)
      | none => err "slice nil"
    | none => err "slice nil"
  | none => err "slice nil"
noncomputable def opSliceSl (esz : Nat) (x : CA) (lo hi mx : Option CA) : OpF := fun tm st _ => evAK x tm fun v => match v with
  | .nilslice => match mx with
    | none => sliceNil tm lo hi mx st
    | some _ => match hi with
      | none => err "slice max"
      | some _ => sliceNil tm lo hi mx st
  | .slice id off len cap ex e => match Nat.beq e esz with
    | false => err "esz"
    | true => match mx with
      | none => sliceOf id off len cap ex esz tm lo hi st
      | some m => match hi with
        | none => err "slice max"
        | some _ => match bound (evA tm m) cap with
          | some m => sliceOf id off len m true esz tm lo hi st
          | none => err "slice max"
  | _ => err "slice sl"
noncomputable def opSliceArr (n esz : Nat) (x : CA) (lo hi mx : Option CA) : OpF := fun tm st _ => evAK x tm fun v => match v with
  | .ptr id off => match mx with
    | none => match Nat.mul n esz with
      | 0 => err "slice arr: empty"
      | m + 1 => match load1At st.heap id (Nat.add off m) with
        | some _ => sliceOf id off n n true esz tm lo hi st
        | none => err "slice arr: no cell"
    | some _ => err "slice arr"
  | _ => err "slice arr"
noncomputable def opFieldAddr (off : Nat) (x : CA) : OpF := fun tm st _ => evAK x tm fun v => match v with
  | .ptr id o => forceN (Nat.add o off) fun o => .ok (.ptr id o, st)
  | _ => err "fieldAddr"
noncomputable def opField (off : Nat) (n : Option Nat) (x : CA) : OpF := fun tm st _ => evAK x tm fun v => match v with
  | .agg cs => retL st (partOf cs off n)
  | _ => err "field"
noncomputable def opIdxAddrArr (len esz : Nat) (x i : CA) : OpF := fun tm st _ => evAK x tm fun v => match v with
  | .ptr id o => evAK i tm fun i => match i with
    | .int _ (.ofNat i) => match Nat.blt i len with
      | true => forceN (Nat.add o (Nat.mul i esz)) fun o => .ok (.ptr id o, st)
      | false => err "index"
    | _ => err "index"
  | _ => err "index"
noncomputable def opIdxAddrSl (esz : Nat) (x i : CA) : OpF := fun tm st _ => evAK x tm fun v => match v with
  | .slice id o len _ _ e => evAK i tm fun i => match i with
    | .int _ (.ofNat i) => match Nat.blt i len && Nat.beq e esz with
      | true => forceN (Nat.add o (Nat.mul i esz)) fun o => .ok (.ptr id o, st)
      | false => err "index"
    | _ => err "index"
  | _ => err "index"
noncomputable def opIdxArr (len esz : Nat) (n : Option Nat) (x i : CA) : OpF := fun tm st _ => evAK x tm fun v => match v with
  | .agg cs => evAK i tm fun i => match i with
    | .int _ (.ofNat i) => match Nat.blt i len with
      | true => retL st (partOf cs (Nat.mul i esz) n)
      | false => err "index"
    | _ => err "index"
  | _ => err "index"
noncomputable def opIdxStr (x i : CA) : OpF := fun tm st _ => evAK x tm fun v => match v with
  | .str n b => evAK i tm fun i => match i with
    | .int _ (.ofNat i) => match Nat.blt i n with
      | true => forceN (byteAt b i) fun c => .ok (.int .u8 (.ofNat c), st)
      | false => err "index str"
    | _ => err "index str"
  | _ => err "index str"
noncomputable def okOr (ok : Bool) (v : AV) (b : Bool) : AV := match ok with
  | true => .tuple [v, .bool b]
  | false => v
noncomputable def retFind (zero : AV) (ok : Bool) (st : St) : Option (Option (Nat × AV)) → M (AV × St)
  | some (some (_, v)) => .ok (okOr ok v true, st)
  | some none => .ok (okOr ok zero false, st)
  | none => err "lookup: keys"
noncomputable def evLookup (zero : AV) (ok : Bool) (m k : AV) (st : St) : M (AV × St) := match m with
  | .nilmap => retFind zero ok st (findKey k [] 0)
  | .map id => match st.heap.get id with
    | some (.map es _) => retFind zero ok st (findKey k es 0)
    | _ => err "lookup: no such object"
  | _ => err "lookup"
noncomputable def opLookup (s : Bool) (zero : AV) (ok : Bool) (m k : CA) : OpF := fun tm st _ => evAK k tm fun k => evAK m tm fun m => match keyIs s k with
  | true => evLookup zero ok m k st
  | false => err "lookup: kind"
noncomputable def evMapUpd (m k v : AV) (st : St) : M (AV × St) := match m with
  | .map id => match st.heap.get id with
    | some (.map es clock) => match findKey k es 0 with
      | some (some (i, _)) => st.putK id (.map (setEntry es i k v) clock) fun st => .ok (undef, st)
      | some none => st.putK id (.map (snoc es (k, v, clock)) (clock + 1)) fun st => .ok (undef, st)
      | none => err "mapUpd: keys"
    | _ => err "mapUpd: no such object"
  | _ => err "mapUpd"
noncomputable def opMapUpd (s : Bool) (m k v : CA) : OpF := fun tm st _ => evAK m tm fun m => evAK k tm fun k => evAK v tm fun v => match keyIs s k with
  | true => evMapUpd m k v st
  | false => err "mapUpd: kind"
noncomputable def opRange (isStr : Bool) (x : CA) : OpF := fun tm st _ => evAK x tm fun v => match isStr with
  | true => match v with
    | .str n b => st.newK (.strIter n b 0) fun id st => .ok (.ptr id 0, st)
    | _ => err "range"
  | false => match v with
    | .nilmap => st.newK (.mapIter none 0 [] 0) fun id st => .ok (.ptr id 0, st)
    | .map m => match st.heap.get m with
      | some (.map _ clock) => st.newK (.mapIter (some m) clock [] clock) fun id st => .ok (.ptr id 0, st)
      | _ => err "range: no such object"
    | _ => err "range"
noncomputable def nextStr (id n b pos : Nat) (st : St) : M (AV × St) :=
  match Nat.blt pos n with
  | true => forceN (byteAt b pos) fun c => match Nat.blt c 128 with
    | true => forceN (Nat.add pos 1) fun p => st.putK id (.strIter n b p) fun st => .ok (.tuple [.bool true, .int .i64 (.ofNat pos), .int .i32 (.ofNat c)], st)
    | false => err "next: not ascii"
  | false => .ok (.tuple [.bool false], st)
noncomputable def nextMap (id m since : Nat) (seen : List Nat) (last : Nat) (es : List (AV × AV × Nat)) (clock : Nat) (st : St) : M (AV × St) :=
  match es with
  | [] => .ok (.tuple [.bool false], st)
  | [(k, v, b)] => match seen with
    | [] => match Nat.blt b since with
      | true => st.putK id (.mapIter (some m) since [b] clock) fun st => .ok (.tuple [.bool true, k, v], st)
      | false => err "next: new entry"
    | [c] => match Nat.beq b c && Nat.blt b last with
      | true => .ok (.tuple [.bool false], st)
      | false => err "next: another entry"
    | _ => err "next: seen"
  | _ => err "next: an order"
noncomputable def opNext (isStr : Bool) (it : CA) : OpF := fun tm st _ => evAK it tm fun v => match v with
  | .ptr id 0 => match st.heap.get id with
    | some (.strIter n b pos) => match isStr with
      | true => nextStr id n b pos st
      | false => err "next"
    | some (.mapIter m since seen last) => match isStr with
      | true => err "next"
      | false => match m with
        | none => .ok (.tuple [.bool false], st)
        | some m => match st.heap.get m with
          | some (.map es clock) => nextMap id m since seen last es clock st
          | _ => err "next: no such map"
    | _ => err "next: no such iterator"
  | _ => err "next"
noncomputable def opEntry (it : CA) : OpF := fun tm st _ => evAK it tm fun v => match v with
  | .ptr id 0 => match st.heap.get id with
    | some (.mapIter (some m) _ [c] last) => match st.heap.get m with
      | some (.map [(k, v, b)] clock) => match Nat.beq b c && Nat.beq clock last with
        | true => .ok (.tuple [k, v], st)
        | false => err "entry: another one"
      | _ => err "entry: no such map"
    | _ => err "entry: no such iterator"
  | _ => err "entry"
noncomputable def opExtract (i : Nat) (x : CA) : OpF := fun tm st _ => evAK x tm fun v => match v with
  | .tuple vs => match dropL i vs with
    | v :: _ => .ok (v, st)
    | [] => err "extract"
  | _ => err "extract"
noncomputable def opCall (f : Nat) (args : List CA) : OpF := fun tm st call => evAsK args tm fun l => call (.func f) l st
noncomputable def opCallV (f : CA) (args : List CA) : OpF := fun tm st call => evAK f tm fun v => match v with
  | .func fn first captured => evAsK args tm fun l => call fn (first ++ (l ++ captured)) st
  | _ => err "call: no function"
noncomputable def appendNew (elem esz m : Nat) (old vs : List AV) (st : St) : M (AV × St) :=
  T.leaf.ofListK 0 (old ++ vs) fun t => st.newK (.cells (some elem) t 0) fun id st => .ok (.slice id 0 m m false esz, st)
noncomputable def appendTo (elem esz bytes : Nat) (id off n cap : Nat) (ex : Bool) (m : Nat) (vs : List AV) (st : St) : M (AV × St) :=
  match Nat.ble (Nat.mul (Nat.add n m) bytes) 70368744177664 && allOne vs with
  | false => err "append: size"
  | true => match cellsOf st.heap id with
    | none => err "append: no such object"
    | some (oe, cs, fz) => match Nat.ble (Nat.add n m) cap with
      | true => match Nat.ble fz (Nat.add off (Nat.mul n esz)) with
        | true => T.ofListK cs (Nat.add off (Nat.mul n esz)) vs fun cs => st.putK id (.cells oe cs fz) fun st => forceN (Nat.add n m) fun l => .ok (.slice id off l cap ex esz, st)
        | false => err "append: room"
      | false => match loadFrom cs off (Nat.mul n esz) with
        | none => err "append: cells"
        | some old => match ex with
          | true => forceN (Nat.add n m) fun l => appendNew elem esz l old vs st
          | false => match Nat.ble fz (Nat.add off (Nat.mul n esz)) with
            | false => err "append: frozen"
            | true => T.leaf.ofListK 0 (old ++ vs) fun t => (st.kill id).newK (.cells (elemJoin oe elem off) t (Nat.sub fz off)) fun id st => forceN (Nat.add n m) fun l => .ok (.slice id 0 l l false esz, st)
noncomputable def evAppend (elem esz bytes : Nat) (x y : AV) (st : St) : M (AV × St) :=
  match srcCells st.heap esz y with
  | none => err "append: source"
  | some (m, vs) => match x with
    | .nilslice => match m with
      | 0 => .ok (.nilslice, st)
      | _ => match Nat.ble (Nat.mul m bytes) 70368744177664 && Nat.ble 1 esz with
        | true => appendNew elem esz m [] vs st
        | false => err "append: size"
    | .slice id off n cap ex e => match Nat.beq e esz && Nat.ble 1 esz with
      | false => err "append: esz"
      | true => match m with
        | 0 => .ok (.slice id off n cap ex e, st)
        | _ => appendTo elem esz bytes id off n cap ex m vs st
    | _ => err "append: no slice"
noncomputable def opAppend (elem esz bytes : Nat) (x y : CA) : OpF := fun tm st _ => evAK x tm fun x => evAK y tm fun y => evAppend elem esz bytes x y st
noncomputable def copyTo (esz id off k id2 off2 : Nat) (st : St) : M (AV × St) :=
  match cellsOf st.heap id, cellsOf st.heap id2 with
  | some (el, cs, fz), some (_, cs2, _) => match loadFrom cs2 off2 (k * esz) with
    | some vs => match Nat.ble fz off with
      | true => match storeFrom cs off vs with
        | some cs => st.putK id (.cells el cs fz) fun st => .ok (.int .i64 (.ofNat k), st)
        | none => err "copy: cells"
      | false => err "copy: frozen"
    | none => err "copy: source"
  | _, _ => err "copy: no such object"
noncomputable def evCopy (esz : Nat) (x y : AV) (st : St) : M (AV × St) := match x with
  | .slice id off n _ _ e => match y with
    | .slice id2 off2 m _ _ e2 => match Nat.beq e esz && Nat.beq e2 esz with
      | true => forceN (Nat.min m n) fun k => copyTo esz id off k id2 off2 st
      | false => err "copy: esz"
    | .nilslice => .ok (.int .i64 (.ofNat 0), st)
    | _ => err "copy"
  | .nilslice => match y with
    | .slice .. => .ok (.int .i64 (.ofNat 0), st)
    | .nilslice => .ok (.int .i64 (.ofNat 0), st)
    | _ => err "copy"
  | _ => err "copy"
noncomputable def opCopy (esz : Nat) (x y : CA) : OpF := fun tm st _ => evAK x tm fun x => evAK y tm fun y => evCopy esz x y st
noncomputable def evDelete (m k : AV) (st : St) : M (AV × St) := match m with
  | .nilmap => match findKey k [] 0 with
    | some _ => .ok (undef, st)
    | none => err "delete: key"
  | .map id => match st.heap.get id with
    | some (.map es clock) => match findKey k es 0 with
      | some (some (i, _)) => st.putK id (.map (delEntry es i) clock) fun st => .ok (undef, st)
      | some none => st.putK id (.map es clock) fun st => .ok (undef, st)
      | none => err "delete: keys"
    | _ => err "delete: no such object"
  | _ => err "delete"
noncomputable def opDelete (s : Bool) (m k : CA) : OpF := fun tm st _ => evAK m tm fun m => evAK k tm fun k => match keyIs s k with
  | true => evDelete m k st
  | false => err "delete: kind"
noncomputable def evClear (zero : List AV) (v : AV) (st : St) : M (AV × St) := match v with
  | .nilmap => .ok (undef, st)
  | .nilslice => .ok (undef, st)
  | .map id => match st.heap.get id with
    | some (.map _ clock) => st.putK id (.map [] clock) fun st => .ok (undef, st)
    | _ => err "clear: no such object"
  | .slice id off n _ _ e => match n with
    | 0 => .ok (undef, st)
    | _ => match Nat.ble 1 e && Nat.beq (lenL zero) e, cellsOf st.heap id with
      | true, some (el, cs, fz) => match Nat.ble fz off, storeFrom cs off (repL zero n) with
        | true, some cs => st.putK id (.cells el cs fz) fun st => .ok (undef, st)
        | _, _ => err "clear: cells"
      | _, _ => err "clear: no such object"
  | _ => err "clear"
noncomputable def opClear (zero : List AV) (x : CA) : OpF := fun tm st _ => evAK x tm fun v => evClear zero v st
noncomputable def opLenStr (x : CA) : OpF := fun tm st _ => evAK x tm fun v => match v with
  | .str n _ => .ok (.int .i64 (.ofNat n), st)
  | _ => err "len"
noncomputable def opLenSl (x : CA) : OpF := fun tm st _ => evAK x tm fun v => match v with
  | .slice _ _ n _ _ _ => .ok (.int .i64 (.ofNat n), st)
  | .nilslice => .ok (.int .i64 (.ofNat 0), st)
  | _ => err "len"
noncomputable def opLenArr (n : Nat) : OpF := fun _ st _ => .ok (.int .i64 (.ofNat n), st)
noncomputable def evLenMap (v : AV) (st : St) : M (AV × St) := match v with
  | .nilmap => .ok (.int .i64 (.ofNat 0), st)
  | .map id => match st.heap.get id with
    | some (.map es _) => forceN (lenL es) fun n => .ok (.int .i64 (.ofNat n), st)
    | _ => err "len: no such object"
  | _ => err "len"
noncomputable def opLenMap (x : CA) : OpF := fun tm st _ => evAK x tm fun v => evLenMap v st
noncomputable def opCapSl (x : CA) : OpF := fun tm st _ => evAK x tm fun v => match v with
  | .slice _ _ _ c ex _ => match ex with
    | true => .ok (.int .i64 (.ofNat c), st)
    | false => err "cap"
  | .nilslice => .ok (.int .i64 (.ofNat 0), st)
  | _ => err "cap"
noncomputable def minmax (lt : Bool) (st : St) : AV → List AV → M (AV × St)
  | x, [] => .ok (x, st)
  | .int k a, .int j b :: l => match keq k j with
    | true => match (match lt with | true => ilt b a | false => ilt a b) with
      | true => minmax lt st (.int k b) l
      | false => minmax lt st (.int k a) l
    | false => err "kinds"
  | _, _ => err "min, max"
noncomputable def opMin (l : List CA) : OpF := fun tm st _ => evAsK l tm fun l => match l with
  | x :: l => match x with
    | .int k a => minmax true st (.int k a) l
    | _ => err "min"
  | [] => err "min"
noncomputable def opMax (l : List CA) : OpF := fun tm st _ => evAsK l tm fun l => match l with
  | x :: l => match x with
    | .int k a => minmax false st (.int k a) l
    | _ => err "max"
  | [] => err "max"
noncomputable def opSliceData (x : CA) : OpF := fun tm st _ => evAK x tm fun v => match v with
  | .nilslice => .ok (.nilptr, st)
  | .slice id off _ c _ _ => match c with
    | 0 => err "sliceData"
    | _ => .ok (.ptr id off, st)
  | _ => err "sliceData"
noncomputable def evUnsafeStr (elem : Nat) (p n : AV) (st : St) : M (AV × St) := match n with
  | .int _ (.ofNat n) => match n with
    | 0 => match p with
      | .nilptr => .ok (.str 0 0, st)
      | .ptr _ _ => .ok (.str 0 0, st)
      | _ => err "unsafe.String"
    | _ => match p with
      | .ptr id off => match cellsOf st.heap id with
        | some (some e, cs, fz) => match Nat.beq e elem && Nat.ble n 70368744177664, packFrom cs off 0 0 n with
          | true, some b => forceN (Nat.max fz (Nat.add off n)) fun fz => st.putK id (.cells (some e) cs fz) fun st => .ok (.str n b, st)
          | _, _ => err "unsafe.String: cells"
        | _ => err "unsafe.String: no such object"
      | _ => err "unsafe.String"
  | _ => err "unsafe.String"
noncomputable def opUnsafeStr (elem : Nat) (p n : CA) : OpF := fun tm st _ => evAK p tm fun p => evAK n tm fun n => evUnsafeStr elem p n st
noncomputable def opTyAssert (t : Nat) (ok : Bool) (x : CA) : OpF := fun tm st _ => evAK x tm fun v => match v with
  | .iface u v => match Nat.beq u t with
    | true => .ok (okOr ok v true, st)
    | false => err "type assertion"
  | _ => err "type assertion"
noncomputable def opUnsafeTo (x : CA) : OpF := fun tm st _ => evAK x tm fun v => match v with
  | .nilptr => .ok (.nilptr, st)
  | .ptr id off => match load1At st.heap id off with
    | some _ => .ok (.ptr id off, st)
    | none => err "unsafe.Pointer: no cell"
  | _ => err "unsafe.Pointer"
noncomputable def opUnsafeFrom (elem last : Nat) (x : CA) : OpF := fun tm st _ => evAK x tm fun v => match v with
  | .nilptr => .ok (.nilptr, st)
  | .ptr id off => match off with
    | 0 => match cellsOf st.heap id with
      | some (some e, cs, _) => match Nat.beq e elem, cs.get last with
        | true, some _ => .ok (.ptr id 0, st)
        | _, _ => err "unsafe.Pointer: another type"
      | _ => err "unsafe.Pointer: no such object"
    | _ => err "unsafe.Pointer: inside"
  | _ => err "unsafe.Pointer"
noncomputable def opBad (n : Nat) : OpF := fun _ _ _ => .error ("bad " ++ toString n)
noncomputable def evOp (o : CO) : OpF :=
  match o with
  | .mv x => opMv x
  | .pick c a b => opPick c a b
  | .newc e c => opNewc e c
  | .box e x => opBox e x
  | .build z p => opBuild z p
  | .buildSlice e s l z p => opBuildSlice e s l z p
  | .load1 x => opLoad1 x
  | .loadN n x => opLoadN n x
  | .store n a x => opStore n a x
  | .nilCheck x => opNilCheck x
  | .bin op x y => opBin op x y
  | .eql n p x y => opEql n p x y
  | .un op x => opUn op x
  | .convInt k x => opConvInt k x
  | .same x => opSame x
  | .strOfBytes x => opStrOfBytes x
  | .bytesOfStr e x => opBytesOfStr e x
  | .strOfInt x => opStrOfInt x
  | .mkIface t x => opMkIface t x
  | .mkFunc f a b => opMkFunc f a b
  | .mkMap => opMkMap
  | .mkSlice e s b z l c => opMkSlice e s b z l c
  | .sliceStr x l h => opSliceStr x l h
  | .sliceSl e x l h m => opSliceSl e x l h m
  | .sliceArr n e x l h m => opSliceArr n e x l h m
  | .fieldAddr o x => opFieldAddr o x
  | .field o n x => opField o n x
  | .idxAddrArr l e x i => opIdxAddrArr l e x i
  | .idxAddrSl e x i => opIdxAddrSl e x i
  | .idxArr l e n x i => opIdxArr l e n x i
  | .idxStr x i => opIdxStr x i
  | .lookup s z ok m k => opLookup s z ok m k
  | .mapUpd s m k v => opMapUpd s m k v
  | .range s x => opRange s x
  | .next s it => opNext s it
  | .entry it => opEntry it
  | .extract i x => opExtract i x
  | .call f l => opCall f l
  | .callV f l => opCallV f l
  | .append e s b x y => opAppend e s b x y
  | .copy e x y => opCopy e x y
  | .delete s m k => opDelete s m k
  | .clear z x => opClear z x
  | .lenStr x => opLenStr x
  | .lenSl x => opLenSl x
  | .lenArr n => opLenArr n
  | .lenMap x => opLenMap x
  | .capSl x => opCapSl x
  | .min l => opMin l
  | .max l => opMax l
  | .sliceData x => opSliceData x
  | .unsafeStr e p n => opUnsafeStr e p n
  | .tyAssert t ok x => opTyAssert t ok x
  | .unsafeTo x => opUnsafeTo x
  | .unsafeFrom e k x => opUnsafeFrom e k x
  | .bad n => opBad n
noncomputable def opClass (o : CO) : Nat :=
  match o with
  | .newc .. | .box .. | .buildSlice .. | .mkMap | .mkSlice .. | .bytesOfStr .. => 1
  | .load1 .. | .loadN .. => 2
  | .sliceArr .. | .store .. | .strOfBytes .. | .lookup .. | .mapUpd .. | .range .. | .next .. | .entry .. | .call .. | .callV .. | .append .. | .copy .. | .delete .. | .clear .. | .lenMap .. | .unsafeStr .. | .unsafeTo .. | .unsafeFrom .. => 3
  | _ => 0
noncomputable def putK {β : Type} (tm : T AV) (dst : Option Nat) (v : AV) (K : T AV → β) : β :=
  match dst with
  | some d => tm.setK d v K
  | none => K tm
noncomputable def putD (tm : T AV) (dst : Option Nat) (v : AV) : T AV :=
  match dst with
  | some d => tm.set d v
  | none => tm
noncomputable def wantV {β : Type} (want : Bool) (st : St) (K : Bool → St → M β) (v : AV) : M β :=
  match v with
  | .bool b => K (b == want) st
  | .sbool s => decK (.sbool s) st fun b st => K (b == want) st
  | .any => .error "want"
  | _ => K false st
noncomputable def wantK {β : Type} (g : Option (CA × Bool)) (tm : T AV) (st : St) (K : Bool → St → M β) : M β :=
  match g with
  | none => K true st
  | some (x, want) => evAK x tm (wantV want st K)
noncomputable def evOps1 (call : CallV) (o : COper) (rest : T AV → St → M (T AV × St)) (tm : T AV) (st : St) : M (T AV × St) :=
  match o with
  | ⟨dst, op, g, _⟩ => wantK g tm st fun b st => match b with
    | false => putK tm dst undef fun tm => rest tm st
    | true => match evOp op tm st call with
      | .ok (v, st) => putK tm dst v fun tm => rest tm st
      | .error e => .error e
noncomputable def evOps (call : CallV) (l : List COper) : T AV → St → M (T AV × St) :=
  List.rec (fun tm st => .ok (tm, st)) (fun o _ ih => evOps1 call o ih) l
end Go.Ab

namespace Go.Ab
abbrev Ov := List AV → St → M (AV × St)
structure Env where
  fn : T CFunc
  ov : T Ov
noncomputable def optA : Option CA → List CA
  | none => []
  | some x => [x]
noncomputable def partsA : List (Nat × Nat × CA) → List CA
  | [] => []
  | (_, _, x) :: l => x :: partsA l
noncomputable def CO.args (o : CO) : List CA :=
  match o with
  | .mv x => [x]
  | .pick c a b => [c, a, b]
  | .newc _ _ => []
  | .box _ x => [x]
  | .build _ p => partsA p
  | .buildSlice _ _ _ _ p => partsA p
  | .load1 x => [x]
  | .loadN _ x => [x]
  | .store _ a x => [a, x]
  | .nilCheck x => [x]
  | .bin _ x y => [x, y]
  | .eql _ _ x y => [x, y]
  | .un _ x => [x]
  | .convInt _ x => [x]
  | .same x => [x]
  | .strOfBytes x => [x]
  | .bytesOfStr _ x => [x]
  | .strOfInt x => [x]
  | .mkIface _ x => [x]
  | .mkFunc _ a b => a ++ b
  | .mkMap => []
  | .mkSlice _ _ _ _ l c => [l, c]
  | .sliceStr x l h => x :: (optA l ++ optA h)
  | .sliceSl _ x l h m => x :: (optA l ++ (optA h ++ optA m))
  | .sliceArr _ _ x l h m => x :: (optA l ++ (optA h ++ optA m))
  | .fieldAddr _ x => [x]
  | .field _ _ x => [x]
  | .idxAddrArr _ _ x i => [x, i]
  | .idxAddrSl _ x i => [x, i]
  | .idxArr _ _ _ x i => [x, i]
  | .idxStr x i => [x, i]
  | .lookup _ _ _ m k => [m, k]
  | .mapUpd _ m k v => [m, k, v]
  | .range _ x => [x]
  | .next _ it => [it]
  | .entry it => [it]
  | .extract _ x => [x]
  | .call _ l => l
  | .callV f l => f :: l
  | .append _ _ _ x y => [x, y]
  | .copy _ x y => [x, y]
  | .delete _ m k => [m, k]
  | .clear _ x => [x]
  | .lenStr x => [x]
  | .lenSl x => [x]
  | .lenArr _ => []
  | .lenMap x => [x]
  | .capSl x => [x]
  | .min l => l
  | .max l => l
  | .sliceData x => [x]
  | .unsafeStr _ p n => [p, n]
  | .tyAssert _ _ x => [x]
  | .unsafeTo x => [x]
  | .unsafeFrom _ _ x => [x]
  | .bad _ => []
noncomputable def tmpsOf : List CA → List Nat
  | [] => []
  | .t t :: l => t :: tmpsOf l
  | .v _ :: l => tmpsOf l
noncomputable def COper.reads (o : COper) : List Nat := match o.guard with
  | some (x, _) => tmpsOf (x :: o.op.args)
  | none => tmpsOf o.op.args
noncomputable def dstOk1 (d i a : Nat) : Nat → List COper → Bool
  | _, [] => true
  | j, o :: l => (Nat.beq i j || (match o.dst with | some d' => !Nat.beq d d' | none => true) && (!memT d o.reads || Nat.testBit o.anc i || Nat.testBit a j)) && dstOk1 d i a (Nat.succ j) l
where memT (x : Nat) : List Nat → Bool
  | [] => false
  | y :: l => Nat.beq x y || memT x l
noncomputable def dstOkAll (all : List COper) : Nat → List COper → Bool
  | _, [] => true
  | i, o :: l => (match o.dst with | some d => dstOk1 d i o.anc 0 all | none => true) && dstOkAll all (Nat.succ i) l
structure LoadR where
  j : Nat
  anc : Nat
  p : AV
  n : Option Nat
  v : AV
abbrev News := List (Nat × AObj)
structure DR where
  tm : T AV
  base : T AObj
  bases : List (T AObj)
  pend : List (Nat × News)
  softs : Nat
  hmask : Nat
  hards : List (Nat × Nat)
  loads : List LoadR
  next : Nat
  low : Nat
  sc : List Bool
  tr : List (SB × Bool)
noncomputable def addAll (h : T AObj) : News → T AObj
  | [] => h
  | (i, o) :: l => addAll (h.set i o) l
noncomputable def heapFor (base : T AObj) (anc : Nat) : List (Nat × News) → T AObj
  | [] => base
  | (i, l) :: p => match Nat.testBit anc i with
    | true => heapFor (addAll base l) anc p
    | false => heapFor base anc p
noncomputable def heapAll (base : T AObj) : List (Nat × News) → T AObj
  | [] => base
  | (_, l) :: p => heapAll (addAll base l) p
noncomputable def pendRest (anc : Nat) : List (Nat × News) → List (Nat × News)
  | [] => []
  | (i, l) :: p => match Nat.testBit anc i with
    | true => pendRest anc p
    | false => (i, l) :: pendRest anc p
noncomputable def collect (h : T AObj) (i : Nat) : Nat → News
  | 0 => []
  | n + 1 => match h.get i with
    | some o => (i, o) :: collect h (i + 1) n
    | none => collect h (i + 1) n
noncomputable def within (a b : Nat) : Bool := Nat.beq (Nat.land a b) a
noncomputable def newsOf (i : Nat) (v : AV) (h : T AObj) (n n' : Nat) (p : List (Nat × News)) : List (Nat × News) :=
  match v.flat with
  | true => p
  | false => (i, collect h n (n' - n)) :: p
noncomputable def evAlloc (call : CallV) (i : Nat) (o : COper) (s : DR) : M (AV × DR) :=
  match evOp o.op s.tm { heap := .leaf, next := s.next, low := s.next, sc := s.sc, tr := s.tr } call with
  | .error e => .error e
  | .ok (v, st) => match Nat.ble s.next st.low with
    | true => .ok (v, { s with pend := newsOf i v st.heap s.next st.next s.pend, next := st.next, sc := st.sc, tr := st.tr })
    | false => .error "draw: alloc"
noncomputable def evMany (call : CallV) (i : Nat) (o : COper) (s : DR) : M (AV × DR) :=
  match evOp o.op s.tm { heap := heapFor s.base o.anc s.pend, next := s.next, low := s.next, sc := s.sc, tr := s.tr } call with
  | .error e => .error e
  | .ok (v, st) =>
    match within s.hmask o.anc with
    | false => .error "draw: beside a hard one"
    | true =>
    match Nat.ble s.next st.low with
    | true => .ok (v, { s with pend := newsOf i v st.heap s.next st.next s.pend, softs := Nat.lor s.softs (Nat.pow 2 i), next := st.next, sc := st.sc, tr := st.tr })
    | false => match within s.softs o.anc with
      | false => .error "draw: a hard one beside soft ones"
      | true => .ok (v, { s with
          base := st.heap, bases := s.base :: s.bases, pend := pendRest o.anc s.pend, softs := 0, hmask := Nat.lor s.hmask (Nat.pow 2 i), hards := (i, o.anc) :: s.hards,
          next := st.next, low := lowered s.low st.low, sc := st.sc, tr := st.tr })
noncomputable def evLoadR (call : CallV) (i : Nat) (o : COper) (x : CA) (n : Option Nat) (s : DR) : M (AV × DR) :=
  match loadAt s.base (evA s.tm x) n with
  | some v => .ok (v, { s with loads := { j := i, anc := o.anc, p := evA s.tm x, n := n, v := v } :: s.loads })
  | none => evMany call i o s
noncomputable def evPureR (call : CallV) (o : COper) (s : DR) : M (AV × DR) :=
  match evOp o.op s.tm { heap := .leaf, next := s.next, low := s.low, sc := s.sc, tr := s.tr } call with
  | .error e => .error e
  | .ok (v, st) => .ok (v, { s with sc := st.sc, tr := st.tr })
noncomputable def asLoad : CO → Option (CA × Option Nat)
  | .load1 x => some (x, none)
  | .loadN n x => some (x, some n)
  | _ => none
noncomputable def evDrawOp (call : CallV) (i : Nat) (o : COper) (s : DR) : M (AV × DR) :=
  match opClass o.op with
  | 0 => evPureR call o s
  | 1 => evAlloc call i o s
  | _ => match asLoad o.op with
    | some (x, n) => evLoadR call i o x n s
    | none => evMany call i o s
noncomputable def evDraw (call : CallV) : List COper → Nat → DR → M DR
  | [], _, s => .ok s
  | o :: l, i, s =>
    wantK o.guard s.tm { heap := .leaf, next := s.next, low := s.low, sc := s.sc, tr := s.tr } fun b st => match b with
    | false => putK s.tm o.dst undef fun tm => evDraw call l (i + 1) { s with tm := tm, sc := st.sc, tr := st.tr }
    | true => match evDrawOp call i o { s with sc := st.sc, tr := st.tr } with
      | .ok (v, s) => putK s.tm o.dst v fun tm => evDraw call l (i + 1) { s with tm := tm }
      | .error e => .error e
noncomputable def countAnc (anc : Nat) : List (Nat × Nat) → Nat
  | [] => 0
  | (h, _) :: l => match Nat.testBit anc h with
    | true => countAnc anc l + 1
    | false => countAnc anc l
noncomputable def countDesc (j : Nat) : List (Nat × Nat) → Nat
  | [] => 0
  | (_, a) :: l => match Nat.testBit a j with
    | true => countDesc j l + 1
    | false => countDesc j l
noncomputable def sameAt (r : LoadR) : List (T AObj) → Nat → Nat → Bool
  | _, _, 0 => true
  | [], _, _ + 1 => false
  | b :: l, 0, n + 1 => match loadAt b r.p r.n with
    | some v => v.beq r.v && sameAt r l 0 n
    | none => false
  | _ :: l, k + 1, n + 1 => sameAt r l k (n + 1)
noncomputable def checkLoads (hards : List (Nat × Nat)) (bases : List (T AObj)) : List LoadR → Bool
  | [] => true
  | r :: l =>
    let lo := countAnc r.anc hards
    let hi := lenL hards - countDesc r.j hards
    sameAt r bases lo (hi - lo + 1) && checkLoads hards bases l
noncomputable def revAnd {α : Type} : List α → List α → List α
  | [], m => m
  | x :: l, m => revAnd l (x :: m)
noncomputable def loadsOk (s : DR) : Bool := match s.hards with
  | [] => true
  | _ => checkLoads s.hards (revAnd s.bases [s.base]) s.loads
noncomputable def evDrawAll (call : CallV) (ops : List COper) (tm : T AV) (st : St) : M (T AV × St) :=
  match st with
  | ⟨h, n, lo, sc, tr⟩ => match evDraw call ops 0 { tm, base := h, bases := [], pend := [], softs := 0, hmask := 0, hards := [], loads := [], next := n, low := lo, sc := sc, tr := tr } with
    | .error e => .error e
    | .ok s => match loadsOk s with
      | true => .ok (s.tm, { heap := heapAll s.base s.pend, next := s.next, low := s.low, sc := s.sc, tr := s.tr })
      | false => .error "draw: a load beside a hard one"
inductive Res where
  | ok (e : Ex) (tm : T AV) (mk : List Nat) (st : St)
  | bad (why : String)
noncomputable def dropMarks : List Nat → St → Option St
  | [], st => some st
  | r :: l, st => match st.heap.get r with
    | some .defr => dropMarks l (st.kill r)
    | _ => none
noncomputable def evResults (tm : T AV) (h : T AObj) : List CRes → Option (List AV)
  | [] => some []
  | .tmp t :: l => match evResults tm h l with
    | some r => some (evA tm (.t t) :: r)
    | none => none
  | .cell t n :: l => match loadAt h (evA tm (.t t)) n with
    | some v => match evResults tm h l with
      | some r => some (v :: r)
      | none => none
    | none => none
noncomputable def oneOrMore : List AV → AV
  | [v] => v
  | l => .tuple l
noncomputable def setAll (tm : T AV) : List Nat → List AV → Option (T AV)
  | [], [] => some tm
  | p :: ps, v :: vs => setAll (tm.set p v) ps vs
  | _, _ => none
abbrev EvF := Bool → CCode → T AV → List Nat → St → Res
noncomputable def endCall (cf : CFunc) : Res → M (AV × St)
  | .bad e => .error e
  | .ok e tm mk st => match e with
    | .exit _ => .error "exit"
    | _ => match dropMarks mk st with
      | none => .error "marks"
      | some st => match evResults tm st.heap cf.results with
        | some l => .ok (oneOrMore l, st)
        | none => .error "results"
noncomputable def callBody (cf : CFunc) (rec : EvF) (args : List AV) (st : St) : M (AV × St) :=
  match Nat.ble (lenL args) cf.ntmps with
  | true => T.leaf.ofListK 0 args fun tm => endCall cf (rec false cf.body tm [] st)
  | false => .error "arguments"
noncomputable def tag (f : Nat) : M (AV × St) → M (AV × St)
  | .error e => .error (toString f ++ " " ++ e)
  | .ok r => .ok r
noncomputable def callFn (G : Env) (rec : EvF) (f : Nat) (args : List AV) (st : St) : M (AV × St) :=
  match G.ov.get f with
  | some o => o args st
  | none => match G.fn.get f with
    | none => .error ("no function " ++ toString f)
    | some cf => callBody cf rec args st
noncomputable def callRound (rec : EvF) (l : Nat) (args : List AV) (st : St) : M (AV × St) :=
  match st.heap.get l with
  | some (.loop lp) => match lp.busy || lp.over, setAll lp.tm lp.params args with
    | false, some tm => match rec true lp.assign tm [] st with
      | .ok .normal tm [] st => match st.heap.get l with
        | some (.loop lp1) => match lp1.busy || lp1.over with
          | false => match rec true lp.body tm [] (st.put l (.loop { lp1 with busy := true })) with
            | .ok e _ [] st => match st.heap.get l with
              | some (.loop lp2) => match e with
                | .normal => .ok (.bool true, st.put l (.loop { lp2 with busy := false, over := false, pending := none }))
                | e => .ok (.bool false, st.put l (.loop { lp2 with busy := false, over := true, pending := some e }))
              | _ => .error "round"
            | .ok .. => .error "round: marks"
            | .bad e => .error e
          | true => .error "round"
        | _ => .error "round"
      | .ok .. => .error "round: assign"
      | .bad e => .error e
    | _, _ => .error "round: busy, or parameters"
  | _ => .error "no such loop"
noncomputable def callAny (G : Env) (rec : EvF) (fn : AFn) (args : List AV) (st : St) : M (AV × St) :=
  match fn with
  | .func f => callFn G rec f args st
  | .yield l => callRound rec l args st
abbrev CodeF := Env → EvF → Bool → T AV → List Nat → St → Res
noncomputable def cdSkip : CodeF := fun _ _ _ tm mk st => .ok .normal tm mk st
noncomputable def cdRet : CodeF := fun _ _ _ tm mk st => .ok .ret tm mk st
noncomputable def cdExit (i : Nat) : CodeF := fun _ _ _ tm mk st => .ok (.exit i) tm mk st
noncomputable def endOps (mk : List Nat) : M (T AV × St) → Res
  | .ok (tm, st) => .ok .normal tm mk st
  | .error e => .bad e
noncomputable def cdRegion (ops : List COper) : CodeF := fun G rec _ tm mk st => endOps mk (evOps (callAny G rec) ops tm st)
noncomputable def cdDraw (ops : List COper) : CodeF := fun G rec _ tm mk st => endOps mk (evDrawAll (callAny G rec) ops tm st)
noncomputable def thenK (K : T AV → List Nat → St → Res) : Res → Res
  | .ok e tm mk st => match e with
    | .normal => K tm mk st
    | e => .ok e tm mk st
  | .bad e => .bad e
noncomputable def cdSeq (a b : CCode) : CodeF := fun _ rec rnd tm mk st => thenK (rec rnd b) (rec rnd a tm mk st)
noncomputable def decR (v : AV) (st : St) (K : Bool → St → Res) : Res :=
  match v with
  | .bool b => K b st
  | .sbool s => match st with
    | ⟨h, n, lo, d :: sc, tr⟩ => K d ⟨h, n, lo, sc, (s, d) :: tr⟩
    | _ => .bad "the script is over"
  | _ => .bad "no bool"
noncomputable def cdCond (c : CA) (a b : CCode) : CodeF := fun _ rec rnd tm mk st => evAK c tm fun v => decR v st fun d st => match d with
  | true => rec rnd a tm mk st
  | false => rec rnd b tm mk st
noncomputable def endBlock (i : Nat) : Res → Res
  | .ok e tm mk st => match e with
    | .exit j => match Nat.beq j i with
      | true => .ok .normal tm mk st
      | false => .ok (.exit j) tm mk st
    | e => .ok e tm mk st
  | .bad e => .bad e
noncomputable def cdBlock (i : Nat) (b : CCode) : CodeF := fun _ rec rnd tm mk st => endBlock i (rec rnd b tm mk st)
noncomputable def cdLoop (b : CCode) : CodeF := fun _ rec rnd tm mk st => thenK (rec rnd (.loop b)) (rec rnd b tm mk st)
noncomputable def endRange (r l : Nat) (tm : T AV) (mk : List Nat) : M (AV × St) → Res
  | .ok (_, st) => match st.heap.get l with
    | some (.loop lp) => match lp.busy with
      | false => .ok (match lp.pending with | none => .normal | some e => e) tm (r :: mk) (st.kill l)
      | true => .bad "loop: busy"
    | _ => .bad "loop"
  | .error e => .bad e
noncomputable def cdRange (f : CA) (ps : List Nat) (assign body : CCode) : CodeF := fun G rec rnd tm mk st => match rnd with
  | true => .bad "range over a function, in a round"
  | false => evAK f tm fun v => match v with
    | .func (.func f) first captured => match G.fn.get f with
      | some _ => st.newK .defr fun r st => st.newK (.loop { busy := false, over := false, pending := none, tm, params := ps, assign, body }) fun l st =>
        endRange r l tm mk (callFn G rec f (first ++ (.func (.yield l) [] [] :: captured)) st)
      | none => .bad "range over a function: no such function"
    | _ => .bad "range over a function"
noncomputable def cdFail : CodeF := fun _ _ _ _ _ _ => .bad "no such code"
noncomputable def evCode (c : CCode) : CodeF :=
  match c with
  | .skip => cdSkip
  | .ret => cdRet
  | .exit i => cdExit i
  | .region ops => cdRegion ops
  | .draw ops => cdDraw ops
  | .seq a b => cdSeq a b
  | .cond c a b => cdCond c a b
  | .block i b => cdBlock i b
  | .loop b => cdLoop b
  | .rangeFunc f ps a b => cdRange f ps a b
  | .fail => cdFail
noncomputable def evBad : EvF := fun _ _ _ _ _ => .bad "fuel"
noncomputable def evStep (G : Env) (rec : EvF) : EvF := fun rnd c tm mk st => evCode c G rec rnd tm mk st
noncomputable def ev (G : Env) (n : Nat) : EvF := Nat.rec evBad (fun _ ih => evStep G ih) n
end Go.Ab

namespace Go.Ab
noncomputable def packL : List UInt8 → Nat
  | [] => 0
  | b :: l => b.toNat + 256 * packL l
noncomputable def packB (s : ByteArray) : AV := .str s.size (packL s.data.toList)
noncomputable def mapO {α β : Type} (f : α → Option β) : List α → Option (List β)
  | [] => some []
  | x :: l => match f x with
    | some y => match mapO f l with
      | some r => some (y :: r)
      | none => none
    | none => none
noncomputable def cVal : Nat → Value → Option AV
  | 0, _ => none
  | d + 1, v => match v with
    | .bool b => some (.bool b)
    | .int k n => some (.int k n)
    | .string s => some (packB s)
    | .pointer none => some .nilptr
    | .slice none 0 0 => some .nilslice
    | .map none => some .nilmap
    | .nilFunc => some .nilFunc
    | .nilIface => some .nilIface
    | .iface t v => match cVal d v with
      | some v => some (.iface t v)
      | none => none
    | .agg cs => match mapO (cVal d) cs.toList with
      | some l => some (.agg l)
      | none => none
    | .tuple cs => match mapO (cVal d) cs.toList with
      | some l => some (.tuple l)
      | none => none
    | _ => none
abbrev Sub := List (Nat × CA)
noncomputable def Sub.find (s : Sub) (t : Nat) : Option CA := match s with
  | [] => none
  | (u, x) :: l => match Nat.beq u t with
    | true => some x
    | false => Sub.find l t
noncomputable def Sub.drop (s : Sub) (d : Nat) : Sub := match s with
  | [] => []
  | (u, x) :: l => match Nat.beq u d with
    | true => Sub.drop l d
    | false => match x with
      | .t t => match Nat.beq t d with
        | true => Sub.drop l d
        | false => (u, x) :: Sub.drop l d
      | .v v => (u, .v v) :: Sub.drop l d
section
variable (E : T Unit) (s : Sub)
noncomputable def cTmp (t : Nat) : Option CA := match E.get t with
  | none => some (.t t)
  | some _ => s.find t
noncomputable def cOpnd : Operand → Option CA
  | .tmp t => cTmp E s t
  | .const v => match cVal 4 v with
    | some v => some (.v v)
    | none => none
  | .global g => match Nat.blt g 100 with
    | true => some (.v (.ptr g 0))
    | false => none
  | .func f => some (.v (.func (.func f) [] []))
noncomputable def cOpnds (l : Array Operand) : Option (List CA) := mapO (cOpnd E s) l.toList
noncomputable def cOptOpnd : Option Operand → Option (Option CA)
  | none => some none
  | some x => match cOpnd E s x with
    | some x => some (some x)
    | none => none
end
section
variable (P : Program) (E : T Unit) (σ : Sub)
noncomputable def aggOf (t : TypeId) : Option (Option Nat) := do
  let u ← P.underlying t
  let i ← P.info? t
  match u with
  | .struct _ | .array _ _ => some (some i.size)
  | _ => some none
noncomputable def zeroOf (t : TypeId) : Option AV := do
  let i ← P.info? t
  let z ← i.zero
  cVal 4 z
noncomputable def sizeOfT (t : TypeId) : Option Nat := do
  let i ← P.info? t
  some i.size
noncomputable def bytesOfT (t : TypeId) : Option Nat := do
  let i ← P.info? t
  some i.bytes
noncomputable def fieldPlans (rec : TypeId → Option Plan) : List Field → Option (List (Nat × Option Nat × Plan))
  | [] => some []
  | f :: l => do
    let r ← fieldPlans rec l
    if f.name ≠ "_" then
      let n ← aggOf P f.type
      let p ← rec f.type
      some ((f.offset, n, p) :: r)
    else some r
noncomputable def planOf : Nat → TypeId → Option Plan
  | 0, _ => none
  | d + 1, t => do
    match ← P.underlying t with
    | .bool => some (.leaf 0)
    | .int _ => some (.leaf 1)
    | .string => some (.leaf 2)
    | .pointer e => if (← sizeOfT P e) ≠ 0 then some (.leaf 3) else none
    | .slice _ => some (.leaf 4)
    | .map _ _ => some (.leaf 5)
    | .func _ _ _ => some (.leaf 6)
    | .interface _ => some (.leaf 7)
    | .struct fs =>
      if P.stoodInHeld t then none else
      let l ← fieldPlans P (planOf d) fs.toList
      some (.fields l)
    | .array len e => do
      let n ← sizeOfT P e
      let a ← aggOf P e
      let p ← planOf d e
      some (.fields ((List.range len).map fun i => (i * n, a, p)))
    | _ => none
noncomputable def isConstO : Operand → Bool
  | .const _ => true
  | _ => false
noncomputable def cBin (op : BinOp) (t : TypeId) (x y : Operand) : Option CO := do
  let a ← cOpnd E σ x
  let b ← cOpnd E σ y
  match ← P.underlying t with
  | .int _ | .string => some (.bin op a b)
  | u =>
    match op with
    | .eql | .neq =>
      let p ← planOf P 6 t
      match u with
      | .interface _ => if isConstO x || isConstO y then some (.eql (op == .neq) p a b) else none
      | .struct _ | .array _ _ => if P.eqGuardType P.depth t then none else some (.eql (op == .neq) p a b)
      | _ => some (.eql (op == .neq) p a b)
    | _ => none
noncomputable def cConv (src dst : TypeId) (x : Operand) : Option CO := do
  let a ← cOpnd E σ x
  match ← P.underlying src, ← P.underlying dst with
  | .int _, .int k => some (.convInt k a)
  | .int _, .string => some (.strOfInt a)
  | .string, .string => some (.same a)
  | .slice e, .string => match ← P.underlying e with
    | .int .u8 => some (.strOfBytes a)
    | _ => none
  | .string, .slice e => match ← P.underlying e with
    | .int .u8 => some (.bytesOfStr e a)
    | _ => none
  | .pointer e, .unsafePointer => if (← sizeOfT P e) ≠ 0 then some (.unsafeTo a) else none
  | .unsafePointer, .pointer e => if (← sizeOfT P e) ≠ 0 then some (.unsafeFrom e ((← sizeOfT P e) - 1) a) else none
  | _, _ => none
noncomputable def cParts (place : Nat → Option (Nat × Nat)) : List (Nat × Operand) → Option (List (Nat × Nat × CA))
  | [] => some []
  | (i, x) :: l => do
    let (off, size) ← place i
    let a ← cOpnd E σ x
    let r ← cParts place l
    some ((off, size, a) :: r)
noncomputable def cBuild (t : TypeId) (parts : Array (Nat × Operand)) : Option CO := do
  let z ← zeroOf P t
  match ← P.underlying t with
  | .struct fs =>
    let places ← mapO (fun (f : Field) => do some (f.offset, ← sizeOfT P f.type)) fs.toList
    let l ← cParts E σ (fun i => places[i]?) parts.toList
    some (.build z.cells l)
  | .array _ e =>
    let n ← sizeOfT P e
    let l ← cParts E σ (fun i => some (i * n, n)) parts.toList
    some (.build z.cells l)
  | _ => none
noncomputable def keyOk (t : TypeId) : Option Bool :=
  match P.underlying t with
  | some (.int _) => some false
  | some .string => some true
  | _ => none
noncomputable def cBuiltin (b : Builtin) (argTypes : Array TypeId) (args : List CA) : Option CO := do
  match b, args with
  | .append, [x, y] =>
    let t ← argTypes[0]?
    let u ← argTypes[1]?
    match ← P.underlying t, ← P.underlying u with
    | _, .int _ => none
    | .slice e, _ =>
      let z ← zeroOf P e
      let n ← sizeOfT P e
      let w ← bytesOfT P e
      if 1 ≤ n && 1 ≤ w && z.cells.length == n then some (.append e n w x y) else none
    | _, _ => none
  | .len, [x] =>
    let t ← argTypes[0]?
    match ← P.underlying t with
    | .string => some (.lenStr x)
    | .slice _ => some (.lenSl x)
    | .map _ _ => some (.lenMap x)
    | .array n _ => some (.lenArr n)
    | .pointer a => match ← P.underlying a with
      | .array n _ => some (.lenArr n)
      | _ => none
    | _ => none
  | .cap, [x] =>
    let t ← argTypes[0]?
    match ← P.underlying t with
    | .slice _ => some (.capSl x)
    | _ => none
  | .copy, [x, y] =>
    let t ← argTypes[0]?
    match ← P.underlying t with
    | .slice e => some (.copy (← sizeOfT P e) x y)
    | _ => none
  | .delete, [m, k] =>
    let t ← argTypes[0]?
    match ← P.underlying t with
    | .map key _ => some (.delete (← keyOk P key) m k)
    | _ => none
  | .clear, [x] =>
    let t ← argTypes[0]?
    match ← P.underlying t with
    | .map _ _ => some (.clear [] x)
    | .slice e =>
      let z ← zeroOf P e
      let n ← sizeOfT P e
      if z.cells.length == n then some (.clear z.cells x) else none
    | _ => none
  | .min, l => some (.min l)
  | .max, l => some (.max l)
  | .unsafeSliceData, [x] => some (.sliceData x)
  | .unsafeString, [p, n] =>
    let t ← argTypes[0]?
    match ← P.underlying t with
    | .pointer e => match ← P.underlying e with
      | .int .u8 => if (← sizeOfT P e) == 1 then some (.unsafeStr e p n) else none
      | _ => none
    | _ => none
  | _, _ => none
noncomputable def cOp (o : Oper) : Option CO := do
  match o.op with
  | .move x | .assign x => some (.mv (← cOpnd E σ x))
  | .pick c a b => some (.pick (← cOpnd E σ c) (← cOpnd E σ a) (← cOpnd E σ b))
  | .alloc t => some (.newc t (← zeroOf P t).cells)
  | .box t x => some (.box t (← cOpnd E σ x))
  | .build t parts => cBuild P E σ t parts
  | .buildSlice t len parts =>
    let .slice e ← P.underlying t | none
    let n ← sizeOfT P e
    let z ← zeroOf P e
    if z.cells.length == n then
      let l ← cParts E σ (fun i => some (i * n, n)) parts.toList
      some (.buildSlice e n len z.cells l)
    else none
  | .load t x => match ← aggOf P t with
    | none => some (.load1 (← cOpnd E σ x))
    | some n => some (.loadN n (← cOpnd E σ x))
  | .store t a x => some (.store (← sizeOfT P t) (← cOpnd E σ a) (← cOpnd E σ x))
  | .nilCheck x => some (.nilCheck (← cOpnd E σ x))
  | .binOp op t x y _ => cBin P E σ op t x y
  | .unOp op _ x => some (.un op (← cOpnd E σ x))
  | .convert s d x => cConv P E σ s d x
  | .makeInterface t x => match ← P.underlying t with
    | .interface _ => none
    | _ => some (.mkIface t (← cOpnd E σ x))
  | .makeFunc (.func f) a b => some (.mkFunc f (← cOpnds E σ a) (← cOpnds E σ b))
  | .makeMap _ none => some .mkMap
  | .makeSlice t l c =>
    let .slice e ← P.underlying t | none
    let n ← sizeOfT P e
    let w ← bytesOfT P e
    let z ← zeroOf P e
    if z.cells.length == n && 1 ≤ n then some (.mkSlice e n w z.cells (← cOpnd E σ l) (← cOpnd E σ c)) else none
  | .slice t x lo hi mx =>
    let a ← cOpnd E σ x
    let l ← cOptOpnd E σ lo
    let h ← cOptOpnd E σ hi
    let m ← cOptOpnd E σ mx
    match ← P.underlying t with
    | .string => if mx.isSome then none else some (.sliceStr a l h)
    | .slice e => some (.sliceSl (← sizeOfT P e) a l h m)
    | .array n e => some (.sliceArr n (← sizeOfT P e) a l h m)
    | .pointer arr => match ← P.underlying arr with
      | .array n e => if mx.isSome then none else some (.sliceArr n (← sizeOfT P e) a l h m)
      | _ => none
    | _ => none
  | .fieldAddr s x i =>
    let .struct fs ← P.underlying s | none
    let f ← fs[i]?
    if (← sizeOfT P f.type) ≠ 0 then some (.fieldAddr f.offset (← cOpnd E σ x)) else none
  | .field s x i =>
    let .struct fs ← P.underlying s | none
    let f ← fs[i]?
    some (.field f.offset (← aggOf P f.type) (← cOpnd E σ x))
  | .indexAddr t x i => match ← P.underlying t with
    | .array n e => some (.idxAddrArr n (← sizeOfT P e) (← cOpnd E σ x) (← cOpnd E σ i))
    | .slice e => some (.idxAddrSl (← sizeOfT P e) (← cOpnd E σ x) (← cOpnd E σ i))
    | _ => none
  | .index t x i => match ← P.underlying t with
    | .array n e => some (.idxArr n (← sizeOfT P e) (← aggOf P e) (← cOpnd E σ x) (← cOpnd E σ i))
    | .string => some (.idxStr (← cOpnd E σ x) (← cOpnd E σ i))
    | _ => none
  | .lookup t m k ok =>
    let .map key e ← P.underlying t | none
    some (.lookup (← keyOk P key) (← zeroOf P e) ok (← cOpnd E σ m) (← cOpnd E σ k))
  | .mapUpdate t m k v | .insert t m k v =>
    let .map key _ ← P.underlying t | none
    some (.mapUpd (← keyOk P key) (← cOpnd E σ m) (← cOpnd E σ k) (← cOpnd E σ v))
  | .range t x => match ← P.underlying t with
    | .string => some (.range true (← cOpnd E σ x))
    | .map _ _ => some (.range false (← cOpnd E σ x))
    | _ => none
  | .next it s => some (.next s (← cOpnd E σ it))
  | .typeAssert x _ t ok => match ← P.underlying t with
    | .interface _ => none
    | _ => some (.tyAssert t ok (← cOpnd E σ x))
  | .entry it => some (.entry (← cOpnd E σ it))
  | .extract t i => some (.extract i (← cOpnd E σ t))
  | .call c =>
    let args ← cOpnds E σ c.args
    match c.callee with
    | .value (.func f) => some (.call f args)
    | .value f => some (.callV (← cOpnd E σ f) args)
    | .builtin b => cBuiltin P b c.argTypes args
    | .invoke _ _ => none
  | _ => none
noncomputable def opTag (o : Oper) : Nat := match o.op with
  | .convert s d _ => 10000000 + s * 1000 + d
  | .typeAssert .. => 1
  | .call _ => 2
  | .defer _ => 3
  | .binOp _ t _ _ _ => 20000000 + t
  | .panic _ => 4
  | .build t _ => 30000000 + t
  | .mapEntry .. => 6
  | .entry .. => 7
  | .makeSlice t .. => 40000000 + t
  | .alloc t => 50000000 + t
  | _ => 9
noncomputable def cGuard (ops : Array Oper) : Option (Nat × Bool) → Option (Option (CA × Bool))
  | none => some none
  | some (j, want) => match (ops[j]?).bind (·.dst) with
    | some t => match cTmp E σ t with
      | some x => some (some (x, want))
      | none => none
    | none => none
noncomputable def cOper (ops : Array Oper) (anc : Nat) (o : Oper) : COper :=
  match cGuard E σ ops o.guard, cOp P E σ o with
  | some g, some op => { dst := o.dst, op := op, guard := g, anc := anc }
  | some g, none => { dst := o.dst, op := .bad (opTag o), guard := g, anc := anc }
  | none, _ => { dst := none, op := .bad 0, guard := none, anc := anc }
noncomputable def cMove (o : Oper) : Option CA := match o.guard with
  | some _ => none
  | none => match o.op with
    | .move x | .assign x => cOpnd E σ x
    | _ => none
end
section
variable (P : Program) (E : T Unit)
noncomputable def cOpers (n : Nat) (ops : Array Oper) (s : Sub) : List Oper → List COper
  | [] => []
  | o :: l => match o.dst with
    | none => cOper P E s ops 0 o :: cOpers n ops s l
    | some d => match Nat.blt d n with
      | false => [{ dst := none, op := .bad 5, guard := none, anc := 0 }]
      | true => match E.get d with
        | none => cOper P E s ops 0 o :: cOpers n ops (s.drop d) l
        | some _ => match cMove E s o with
          | some x => cOpers n ops ((d, x) :: s.drop d) l
          | none => [{ dst := none, op := .bad 6, guard := none, anc := 0 }]
noncomputable def cDrawOpers (ops : Array Oper) : List Oper → List Nat → List COper
  | o :: l, a :: m => cOper P E [] ops a o :: cDrawOpers ops l m
  | _, _ => []
noncomputable def dstsOk (n : Nat) (ops : Array Oper) : Bool :=
  ops.toList.all fun o => match o.dst with
    | some d => Nat.blt d n && (E.get d).isNone
    | none => true
noncomputable def ancFold (b : List Nat) : List Edge → Nat
  | [] => 0
  | e :: l => match Region.binds .any e with
    | true => Nat.lor (Nat.lor (Nat.pow 2 e.on) (b.getD e.on 0)) (ancFold b l)
    | false => ancFold b l
noncomputable def ancOk (b : List Nat) : Nat → List Oper → List Nat → Bool
  | i, o :: l, a :: m => (o.after.toList.all fun e => !Region.binds .any e || Nat.blt e.on i) && Nat.beq a (ancFold b o.after.toList) && ancOk b (Nat.succ i) l m
  | _, [], [] => true
  | _, _, _ => false
noncomputable def drawOk (ops : Array Oper) (b : List Nat) (l : List COper) : Bool := ancOk b 0 ops.toList b && dstOkAll l 0 l
noncomputable def cSeq (a b : CCode) : CCode := match a with
  | .skip => b
  | a => match b with
    | .skip => a
    | b => .seq a b
noncomputable def cRegion (l : List COper) : CCode := match l with
  | [] => .skip
  | l => .region l
noncomputable def cCode (n : Nat) : Code → CCode
  | .skip => .skip
  | .region _ ops draw => match draw with
    | false => cRegion (cOpers P E n ops [] ops.toList)
    | true => match drawOk ops (Region.before ops).toList (cDrawOpers P E ops ops.toList (Region.before ops).toList) && dstsOk E n ops with
      | true => .draw (cDrawOpers P E ops ops.toList (Region.before ops).toList)
      | false => .fail
  | .seq a b => cSeq (cCode n a) (cCode n b)
  | .cond c a b => match cOpnd E [] c with
    | some c => .cond c (cCode n a) (cCode n b)
    | none => .fail
  | .block i b => .block i (cCode n b)
  | .loop b => .loop (cCode n b)
  | .rangeFunc f ps a b => match cOpnd E [] f, ps.toList.all fun p => Nat.blt p n && (E.get p).isNone with
    | some f, true => .rangeFunc f ps.toList (cCode n a) (cCode n b)
    | _, _ => .fail
  | .exit i => .exit i
  | .ret => .ret
  | _ => .fail
noncomputable def cRes : List ResultVar → Option (List CRes)
  | [] => some []
  | .tmp t :: l => match E.get t with
    | none => do some (.tmp t :: (← cRes l))
    | some _ => none
  | .cell a t :: l => match E.get a with
    | none => do some (.cell a (← aggOf P t) :: (← cRes l))
    | some _ => none
noncomputable def noParam (n : Nat) : Bool := match n with
  | 0 => true
  | n + 1 => (E.get n).isNone && noParam n
noncomputable def cFunc (f : Func) : Option CFunc := do
  let body ← f.body
  let r ← cRes P E f.results.toList
  if noParam E f.params.size then some { ntmps := f.ntmps, results := r, body := cCode P E f.ntmps body } else none
end
end Go.Ab

namespace Go.Ab
noncomputable def findByte (c : Nat) : Nat → Nat → Nat → Int
  | 0, _, _ => Int.negSucc 0
  | n + 1, b, i => match Nat.beq (Nat.mod b 256) c with
    | true => Int.ofNat i
    | false => findByte c n (Nat.shiftRight b 8) (Nat.succ i)
noncomputable def countByte (c : Nat) : Nat → Nat → Nat → Nat
  | 0, _, i => i
  | n + 1, b, i => match Nat.beq (Nat.mod b 256) c with
    | true => countByte c n (Nat.shiftRight b 8) (Nat.succ i)
    | false => countByte c n (Nat.shiftRight b 8) i
noncomputable def ovIndexByteString : Ov := fun args st => match args with
  | [.str n b, .int .u8 (.ofNat c)] => match Nat.blt c 256 with
    | true => forceI (findByte c n b 0) fun r => .ok (.int .i64 r, st)
    | false => err "byte"
  | _ => err "IndexByteString"
noncomputable def ovCountString : Ov := fun args st => match args with
  | [.str n b, .int .u8 (.ofNat c)] => match Nat.blt c 256 with
    | true => forceN (countByte c n b 0) fun r => .ok (.int .i64 (.ofNat r), st)
    | false => err "byte"
  | _ => err "CountString"
noncomputable def ovNoEscape : Ov := fun args st => match args with
  | [x] => .ok (x, st)
  | _ => err "NoEscape"
noncomputable def ovMakeNoZero (elem : Nat) : Ov := fun args st => match args with
  | [.int .i64 (.ofNat n)] => match Nat.ble n 70368744177664 with
    | true => st.newK (.cells (some elem) .leaf 0) fun id st => .ok (.slice id 0 n n false 1, st)
    | false => err "MakeNoZero"
  | _ => err "MakeNoZero"
noncomputable def ovMapsClone : Ov := fun args st => match args with
  | [.iface t (.map r)] => match st.heap.get r with
    | some (.map es clock) => st.newK (.map es clock) fun id st => .ok (.iface t (.map id), st)
    | _ => err "maps.clone: no such object"
  | _ => err "maps.clone"
noncomputable def ovClockRead : Ov := fun args st => match args with
  | [.ptr id off, .int .i64 raw] => match cellsOf st.heap id with
    | some (e, cs, 0) => match cs.get off, cs.get (off + 3) with
      | some (.int .i64 tick), some (.int .i64 all) => match ilt raw tick, ilt (.ofNat 1099511627776) raw with
        | false, false => forceI (fwrap .i64 (Int.add all 1)) fun a => forceI (fwrap .i64 (Int.sub raw tick)) fun d =>
          cs.setK (off + 3) (.int .i64 a) fun cs => cs.setK off (.int .i64 raw) fun cs => st.putK id (.cells e cs 0) fun st => .ok (.tuple [.int .i64 raw, .int .i64 d], st)
        | _, _ => err "Read: times"
      | _, _ => err "Read: cells"
    | _ => err "Read: no such object"
  | _ => err "Read"
noncomputable def incr (clock : Nat) : Nat → List (AV × AV × Nat) → Bool
  | _, [] => true
  | prev, (_, _, b) :: l => match Nat.ble prev b && Nat.blt b clock with
    | true => incr clock (Nat.succ b) l
    | false => false
noncomputable def intKeys : List (AV × AV × Nat) → Option (List Nat)
  | [] => some []
  | (.int .i64 (.ofNat n), _, _) :: l => match Nat.blt n 9223372036854775808 with
    | true => match intKeys l with
      | some r => some (n :: r)
      | none => none
    | false => none
  | _ => none
noncomputable def insN (x : Nat) : List Nat → List Nat
  | [] => [x]
  | y :: l => match Nat.blt y x with
    | true => y :: insN x l
    | false => x :: y :: l
noncomputable def sortN : List Nat → List Nat
  | [] => []
  | x :: l => insN x (sortN l)
noncomputable def strictN (x : Nat) : List Nat → Bool
  | [] => true
  | y :: l => match Nat.blt x y with
    | true => strictN y l
    | false => false
noncomputable def natAVs : List Nat → List AV
  | [] => []
  | n :: l => .int .i64 (.ofNat n) :: natAVs l
noncomputable def memN (x : Nat) : List Nat → Bool
  | [] => false
  | y :: l => Nat.beq x y || memN x l
noncomputable def ovSortedInt (keys : List Nat) (elem : Nat) : Ov := fun args st => match args with
  | [.func (.func f) [] [.ptr c 0]] => match memN f keys, cellsOf st.heap c with
    | true, some (some _, cs, _) => match cs.get 0 with
      | some (.map id) => match st.heap.get id with
        | some (.map es clock) => match incr clock 0 es && Nat.ble (lenL es) 1048576, intKeys es with
          | true, some ks => match sortN ks with
            | [] => .ok (.nilslice, st)
            | x :: l => match strictN x l with
              | true => T.leaf.ofListK 0 (natAVs (x :: l)) fun t => st.newK (.cells (some elem) t 0) fun i st => forceN (lenL (x :: l)) fun n => .ok (.slice i 0 n n false 1, st)
              | false => err "Sorted: twice"
          | _, _ => err "Sorted: keys"
        | _ => err "Sorted: no such map"
      | _ => err "Sorted: a map expected"
    | _, _ => err "Sorted: a box expected"
  | _ => err "Sorted"
noncomputable def sumLens : List (AV × AV × Nat) → Nat → Option Nat
  | [], n => some n
  | (_, .agg [.str m _, .int .i64 _], _) :: l, n => sumLens l (n + m)
  | _, _ => none
noncomputable def ovUsed (off : Nat) : Ov := fun args st => match args with
  | [.ptr d o] => match loadAt st.heap (.ptr d (o + off)) none with
    | some (.map id) => match st.heap.get id with
      | some (.map es clock) => match incr clock 0 es, sumLens es 0 with
        | true, some n => match Nat.blt n 9223372036854775808 with
          | true => forceN n fun n => .ok (.int .i64 (.ofNat n), st)
          | false => err "Used"
        | _, _ => err "Used: files"
      | _ => err "Used: no such map"
    | _ => err "Used: a map expected"
  | _ => err "Used"
noncomputable def leastI : List (AV × AV × Nat) → Option Int → Option (Option Int)
  | [], b => some b
  | (_, .int .i64 n, _) :: l, none => leastI l (some n)
  | (_, .int .i64 n, _) :: l, some b => leastI l (match ilt n b with | true => some n | false => some b)
  | _, _ => none
noncomputable def ovSee : Ov := fun args st => match args with
  | [.nilmap, _, _] => .ok (undef, st)
  | [.map id, .ptr fi fo, .ptr bi bo] => match st.heap.get id with
    | some (.map es clock) => match incr clock 0 es && !Nat.beq fi bi, cellsOf st.heap fi, cellsOf st.heap bi with
      | true, some (e1, c1, 0), some (e2, c2, 0) => match c1.get fo, c2.get bo with
        | some (.bool found), some (.int .i64 best) => match leastI es (match found with | true => some best | false => none) with
          | some (some n) => st.putK fi (.cells e1 (c1.set fo (.bool true)) 0) fun st => st.putK bi (.cells e2 (c2.set bo (.int .i64 n)) 0) fun st => .ok (undef, st)
          | some none => .ok (undef, st)
          | none => err "see: dues"
        | _, _ => err "see: found, best"
      | _, _, _ => err "see: cells"
    | _ => err "see: no such map"
  | _ => err "see"
noncomputable def crcBits : Nat → Nat → Nat
  | 0, r => r
  | n + 1, r => match Nat.mod r 2 with
    | 0 => forceN (Nat.shiftRight r 1) (crcBits n)
    | _ => forceN (Nat.xor (Nat.shiftRight r 1) 3988292384) (crcBits n)
noncomputable def crcBytes : Nat → Nat → Nat → Nat
  | 0, _, r => r
  | n + 1, b, r => forceN (crcBits 8 (Nat.xor r (Nat.mod b 256))) (crcBytes n (Nat.shiftRight b 8))
noncomputable def ovSum : Ov := fun args st => match args with
  | [.str n b] => forceN (Nat.xor (crcBytes n b 4294967295) 4294967295) fun r => .ok (.int .u32 (.ofNat r), st)
  | _ => err "Sum"
end Go.Ab

namespace Go.Ab.Lit
open Go.Ab
def eU : T Unit := .node .leaf (some ()) .leaf
def eN (a b : T Unit) : T Unit := .node a none b
def eS (a b : T Unit) : T Unit := .node a (some ()) b
def o (d : Nat) (c : CO) : COper := ⟨some d, c, none, 0⟩
def g (d : Nat) (c : CO) (t : Nat) (b : Bool) : COper := ⟨some d, c, some (.t t, b), 0⟩
def k (n : Nat) : CA := .v (.int .i64 (.ofNat n))
def c4 : CFunc := ⟨120,[.tmp 4],.seq (.region [o 4 (.mv (.v (.bool false)))])
 (.seq (.seq (.region [o 13 (.call 16 []),o 14 (.un .not (.t 13))])
 (.cond (.t 14)
 (.seq (.region [o 4 (.mv (.v (.bool false)))])
 .ret)
 .skip))
 (.seq (.seq (.region [o 16 (.bin .lss (.t 0) (k 0)),g 18 (.mv (.t 0)) 16 false,g 19 (.bin .gtr (.t 18) (k 40)) 16 false,o 20 (.pick (.t 16) (.v (.bool true)) (.t 19)),g 22 (.mv (.t 1)) 20 false,g 23 (.bin .lss (.t 22) (k 1)) 20 false,o 24 (.pick (.t 20) (.v (.bool true)) (.t 23)),g 26 (.mv (.t 1)) 24 false,g 27 (.bin .gtr (.t 26) (k 1048576)) 24 false,o 28 (.pick (.t 24) (.v (.bool true)) (.t 27))])
 (.cond (.t 28)
 (.seq (.region [o 4 (.mv (.v (.bool true)))])
 .ret)
 .skip))
 (.seq (.region [o 31 (.call 17 [.t 1]),o 32 (.extract 0 (.t 31)),o 33 (.extract 1 (.t 31)),o 5 (.mv (.t 32)),o 6 (.mv (.t 33))])
 (.seq (.seq (.region [o 35 (.eql false (.leaf 3) (.t 5) (.v .nilptr)),g 37 (.mv (.t 6)) 35 false,g 38 (.bin .neq (.t 37) (k 0)) 35 false,o 39 (.pick (.t 35) (.v (.bool true)) (.t 38))])
 (.cond (.t 39)
 (.seq (.region [o 4 (.mv (.v (.bool false)))])
 .ret)
 .skip))
 (.seq (.region [o 41 (.call 12 []),o 43 (.call 18 [.t 41,.t 5]),o 44 (.extract 0 (.t 43)),o 45 (.extract 1 (.t 43)),o 7 (.mv (.t 44)),o 8 (.mv (.t 45))])
 (.seq (.seq (.region [o 47 (.eql false (.leaf 3) (.t 7) (.v .nilptr)),g 49 (.mv (.t 8)) 47 false,g 50 (.bin .neq (.t 49) (k 0)) 47 false,o 51 (.pick (.t 47) (.v (.bool true)) (.t 50))])
 (.cond (.t 51)
 (.seq (.region [o 4 (.mv (.v (.bool false)))])
 .ret)
 .skip))
 (.seq (.region [o 9 (.mv (k 0))])
 (.seq (.seq (.region [o 10 (.mv (k 0))])
 (.block 0 (.loop (.seq (.seq (.region [o 54 (.bin .lss (.t 10) (.t 0))])
 (.cond (.t 54)
 .skip
 (.exit 0)))
 (.seq (.block 1 (.seq (.region [o 58 (.buildSlice 9 1 1 [.str 0 0] [(0,1,.v (.str 4 1954047348))]),o 59 (.call 20 [k 0,.v (.str 5 267936358716),.v (.str 5 267969913660),.t 58]),o 60 (.call 19 [.t 7,.t 59]),o 11 (.mv (.t 60))])
 (.seq (.seq (.region [o 12 (.mv (k 0))])
 (.block 2 (.loop (.seq (.seq (.region [o 63 (.lenSl (.t 11)),o 64 (.bin .lss (.t 12) (.t 63))])
 (.cond (.t 64)
 .skip
 (.exit 2)))
 (.seq (.block 3 (.seq (.region [o 69 (.idxAddrSl 6 (.t 11) (.t 12)),o 70 (.fieldAddr 0 (.t 69)),o 71 (.load1 (.t 70)),o 72 (.bin .eql (.t 71) (.v (.str 3 7954803))),g 74 (.mv (.t 11)) 72 true,g 75 (.mv (.t 12)) 72 true,g 76 (.idxAddrSl 6 (.t 74) (.t 75)) 72 true,g 77 (.fieldAddr 5 (.t 76)) 72 true,g 78 (.load1 (.t 77)) 72 true,g 79 (.lenSl (.t 78)) 72 true,g 80 (.bin .eql (.t 79) (k 1)) 72 true,o 81 (.pick (.t 72) (.t 80) (.v (.bool false))),g 83 (.mv (.t 11)) 81 true,g 84 (.mv (.t 12)) 81 true,g 85 (.idxAddrSl 6 (.t 83) (.t 84)) 81 true,g 86 (.fieldAddr 5 (.t 85)) 81 true,g 87 (.load1 (.t 86)) 81 true,g 88 (.idxAddrSl 1 (.t 87) (k 0)) 81 true,g 89 (.load1 (.t 88)) 81 true,g 90 (.bin .eql (.t 89) (.v (.str 15 573209685382622236380442712521848114))) 81 true,o 91 (.pick (.t 81) (.t 90) (.v (.bool false)))])
 (.cond (.t 91)
 (.region [o 93 (.bin .add (.t 9) (k 1)),o 9 (.mv (.t 93))])
 .skip)))
 (.region [o 66 (.bin .add (.t 12) (k 1)),o 12 (.mv (.t 66))]))))))
 (.seq (.region [o 95 (.call 21 [.t 7]),o 96 (.lenSl (.t 95)),o 98 (.bin .neq (.t 96) (.t 9)),g 100 (.mv (.t 9)) 98 false,g 101 (.bin .gtr (.t 100) (k 24)) 98 false,o 102 (.pick (.t 98) (.v (.bool true)) (.t 101)),g 104 (.mv (.t 5)) 102 false,g 105 (.call 22 [.t 104]) 102 false,g 106 (.mv (.t 1)) 102 false,g 107 (.bin .gtr (.t 105) (.t 106)) 102 false,o 108 (.pick (.t 102) (.v (.bool true)) (.t 107))])
 (.cond (.t 108)
 (.seq (.region [o 4 (.mv (.v (.bool false)))])
 .ret)
 .skip)))))
 (.region [o 56 (.bin .add (.t 10) (k 1)),o 10 (.mv (.t 56))]))))))
 (.seq (.region [o 111 (.bin .eql (.t 9) (.t 0)),g 113 (.mv (.t 9)) 111 false,g 114 (.bin .eql (.t 113) (k 24)) 111 false,o 115 (.pick (.t 111) (.v (.bool true)) (.t 114)),g 117 (.mv (.t 1)) 115 false,g 118 (.bin .lss (.t 117) (k 65536)) 115 false,o 119 (.pick (.t 115) (.v (.bool true)) (.t 118)),o 4 (.mv (.t 119))])
 .ret)))))))))⟩
def e4 : T Unit := (eN (eN (eN (eN (eS (eS .leaf eU) (eS eU .leaf)) .leaf) (eN (eN .leaf eU) (eN (eN .leaf eU) eU))) (eN (eN (eN (eN .leaf eU) .leaf) (eN (eS eU .leaf) (eS .leaf eU))) (eN (eN .leaf eU) (eN (eS eU .leaf) .leaf)))) (eN (eN (eN (eS eU (eN eU .leaf)) (eS eU .leaf)) (eN (eS eU (eN .leaf eU)) (eS .leaf (eN eU eU)))) (eN (eN .leaf (eN .leaf (eN eU eU))) (eN (eN eU (eN eU .leaf)) eU))))
def c11 : CFunc := ⟨26,[.tmp 2,.tmp 3],.seq (.region [o 1 (.box 31 (.t 0)),o 2 (.mv (.v .nilptr)),o 3 (.mv (.v .nilptr))])
 (.seq (.region [o 9 (.call 17 [k 1048576]),o 10 (.extract 0 (.t 9)),o 11 (.extract 1 (.t 9)),o 4 (.mv (.t 10)),o 5 (.mv (.t 11))])
 (.seq (.seq (.region [o 13 (.eql false (.leaf 3) (.t 4) (.v .nilptr)),g 15 (.mv (.t 5)) 13 false,g 16 (.bin .neq (.t 15) (k 0)) 13 false,o 17 (.pick (.t 13) (.v (.bool true)) (.t 16))])
 (.cond (.t 17)
 (.seq (.region [o 2 (.mv (.v .nilptr)),o 3 (.mv (.v .nilptr))])
 .ret)
 .skip))
 (.seq (.region [o 19 (.loadN 10 (.t 1)),o 21 (.call 18 [.t 19,.t 4]),o 22 (.extract 0 (.t 21)),o 23 (.extract 1 (.t 21)),o 6 (.mv (.t 22))])
 (.seq (.region [o 2 (.mv (.t 4)),o 3 (.mv (.t 6))])
 .ret))))⟩
def e11 : T Unit := (eN (eN (eN eU (eN .leaf eU)) (eN (eS .leaf eU) (eS eU .leaf))) (eN (eN .leaf (eN eU .leaf)) (eN .leaf eU)))
def c12 : CFunc := ⟨3,[.cell 0 (some 10)],.seq (.region [o 0 (.newc 31 [.str 0 0,.int .i64 (.ofNat 0),.int .i64 (.ofNat 0),.int .i64 (.ofNat 0),.int .i64 (.ofNat 0),.int .i64 (.ofNat 0),.int .i64 (.ofNat 0),.int .i64 (.ofNat 0),.int .i64 (.ofNat 0),.int .i64 (.ofNat 0)])])
 (.seq (.region [o 1 (.build [.int .i64 (.ofNat 0),.int .i64 (.ofNat 0),.int .i64 (.ofNat 0),.int .i64 (.ofNat 0)] [(0,1,k 10),(1,1,k 60),(2,1,k 500),(3,1,k 100)]),o 2 (.build [.str 0 0,.int .i64 (.ofNat 0),.int .i64 (.ofNat 0),.int .i64 (.ofNat 0),.int .i64 (.ofNat 0),.int .i64 (.ofNat 0),.int .i64 (.ofNat 0),.int .i64 (.ofNat 0),.int .i64 (.ofNat 0),.int .i64 (.ofNat 0)] [(0,1,.v (.str 4 1701995880)),(1,1,k 2000),(2,1,k 1000),(3,4,.t 1),(7,1,k 20),(8,1,k 2),(9,1,k 16)]),⟨none,.store 10 (.t 0) (.t 2),none,0⟩])
 .ret)⟩
def e12 : T Unit := .leaf
def c13 : CFunc := ⟨80,[.tmp 4,.tmp 5],.seq (.region [o 3 (.box 43 (.t 1)),o 4 (.mv (.v .nilslice)),o 5 (.mv (k 0))])
 (.seq (.region [o 9 (.build [.nilFunc,.nilFunc,.nilFunc,.nilFunc,.nilFunc,.nilFunc,.nilFunc,.nilFunc] [(0,1,.v (.func (.func 34) [] [])),(1,1,.v (.func (.func 35) [] [])),(2,1,.v (.func (.func 36) [] [])),(3,1,.v (.func (.func 37) [] [])),(4,1,.v (.func (.func 38) [] [])),(5,1,.v (.func (.func 38) [] [])),(6,1,.v (.func (.func 39) [] [])),(7,1,.v (.func (.func 40) [] []))]),o 6 (.newc 90 [.nilFunc,.nilFunc,.nilFunc,.nilFunc,.nilFunc,.nilFunc,.nilFunc,.nilFunc]),⟨none,.store 8 (.t 6) (.t 9),none,0⟩])
 (.seq (.block 0 (.seq (.region [o 11 (.fieldAddr 0 (.t 3)),o 12 (.load1 (.t 11)),o 13 (.bin .lss (.t 12) (k 0)),g 15 (.fieldAddr 0 (.t 3)) 13 false,g 16 (.load1 (.t 15)) 13 false,g 17 (.bin .geq (.t 16) (k 8)) 13 false,o 18 (.pick (.t 13) (.v (.bool true)) (.t 17)),o 10 (.mv (.t 18))])
 (.cond (.t 10)
 (.seq (.region [o 4 (.mv (.v .nilslice)),o 5 (.mv (k 10))])
 .ret)
 (.seq (.region [o 20 (.fieldAddr 0 (.t 3)),o 21 (.load1 (.t 20)),o 22 (.bin .lss (.t 21) (k 3)),g 24 (.fieldAddr 1 (.t 3)) 22 true,g 25 (.load1 (.t 24)) 22 true,g 26 (.bin .lss (.t 25) (k 0)) 22 true,g 27 (.mv (.t 26)) 22 true,g 28 (.fieldAddr 1 (.t 3)) 27 false,g 29 (.load1 (.t 28)) 27 false,g 30 (.bin .geq (.t 29) (k 4)) 27 false,g 31 (.pick (.t 27) (.v (.bool true)) (.t 30)) 22 true,o 32 (.pick (.t 22) (.t 31) (.v (.bool false))),o 19 (.mv (.t 32))])
 (.cond (.t 19)
 (.seq (.region [o 4 (.mv (.v .nilslice)),o 5 (.mv (k 1))])
 .ret)
 .skip)))))
 (.seq (.region [o 34 (.nilCheck (.t 0)),o 35 (.fieldAddr 20 (.t 34)),⟨none,.store 1 (.t 35) (.v .nilslice),none,0⟩])
 (.seq (.draw [o 36 (.fieldAddr 0 (.t 3)),⟨some 37,.load1 (.t 36),none,1⟩,⟨some 38,.idxAddrArr 8 1 (.t 6) (.t 37),none,3⟩,⟨some 39,.load1 (.t 38),none,7⟩,o 40 (.mv (.t 0)),o 41 (.loadN 13 (.t 3)),⟨some 42,.callV (.t 39) [.t 40,.t 41],none,63⟩,⟨some 7,.mv (.t 42),none,127⟩])
 (.seq (.seq (.region [o 43 (.fieldAddr 0 (.t 3)),o 44 (.load1 (.t 43)),o 45 (.bin .lss (.t 44) (k 6)),g 47 (.mv (.t 7)) 45 true,g 48 (.bin .eql (.t 47) (k 0)) 45 true,o 49 (.pick (.t 45) (.t 48) (.v (.bool false)))])
 (.cond (.t 49)
 (.region [o 51 (.call 41 [.t 0])])
 .skip))
 (.seq (.seq (.region [o 53 (.nilCheck (.t 0)),o 54 (.fieldAddr 10 (.t 53)),o 55 (.load1 (.t 54)),o 56 (.call 42 [.t 55])])
 (.cond (.t 56)
 (.seq (.region [o 58 (.nilCheck (.t 0)),o 59 (.fieldAddr 10 (.t 58)),o 60 (.load1 (.t 59)),o 61 (.call 43 [.t 60])])
 (.seq (.seq (.region [o 63 (.call 44 [.t 0]),o 8 (.mv (.t 63))])
 (.seq (.region [o 65 (.bin .neq (.t 8) (k 0))])
 (.cond (.t 65)
 (.seq (.region [o 67 (.nilCheck (.t 0)),o 68 (.fieldAddr 20 (.t 67)),o 69 (.load1 (.t 68)),o 4 (.mv (.t 69)),o 5 (.mv (.t 8))])
 .ret)
 .skip)))
 (.region [o 72 (.build [.str 0 0,.int .i64 (.ofNat 0),.int .i64 (.ofNat 0),.int .i64 (.ofNat 0),.str 0 0,.nilslice] [(0,1,.v (.str 4 1853321060))]),o 73 (.buildSlice 46 6 1 [.str 0 0,.int .i64 (.ofNat 0),.int .i64 (.ofNat 0),.int .i64 (.ofNat 0),.str 0 0,.nilslice] [(0,6,.t 72)]),o 74 (.call 45 [.t 0,.t 73])])))
 .skip))
 (.seq (.region [o 76 (.nilCheck (.t 0)),o 77 (.fieldAddr 20 (.t 76)),o 78 (.load1 (.t 77)),o 4 (.mv (.t 78)),o 5 (.mv (.t 7))])
 .ret)))))))⟩
def e13 : T Unit := (eN (eN (eN (eS (eN eU eU) (eN .leaf (eN .leaf eU))) (eN .leaf (eN eU (eN .leaf eU)))) (eN (eN .leaf (eN eU .leaf)) (eN .leaf (eN .leaf (eN .leaf eU))))) (eN (eN .leaf (eN (eN eU .leaf) (eN .leaf eU))) (eN (eN (eN .leaf (eN .leaf eU)) .leaf) (eN (eS .leaf (eN .leaf eU)) (eN (eN .leaf eU) .leaf)))))
def c16 : CFunc := ⟨48,[.tmp 0],.seq (.region [o 0 (.mv (.v (.bool false)))])
 (.seq (.region [o 7 (.call 12 []),o 8 (.call 11 [.t 7]),o 9 (.extract 0 (.t 8)),o 10 (.extract 1 (.t 8)),o 2 (.mv (.t 10))])
 (.seq (.seq (.region [o 12 (.eql false (.leaf 3) (.t 2) (.v .nilptr))])
 (.cond (.t 12)
 (.seq (.region [o 0 (.mv (.v (.bool false)))])
 .ret)
 .skip))
 (.seq (.region [o 14 (.buildSlice 9 1 1 [.str 0 0] [(0,1,.v (.str 4 1954047348))]),o 15 (.call 20 [k 0,.v (.str 5 267936358716),.v (.str 5 267969913660),.t 14]),o 16 (.call 19 [.t 2,.t 15]),o 3 (.mv (.t 16))])
 (.seq (.region [o 19 (.build [.int .i64 (.ofNat 0),.int .i64 (.ofNat 0),.int .i64 (.ofNat 0),.int .i64 (.ofNat 0),.str 0 0,.int .i64 (.ofNat 0),.int .i64 (.ofNat 0),.int .i64 (.ofNat 0),.int .i64 (.ofNat 0),.nilslice,.int .i64 (.ofNat 0),.int .i64 (.ofNat 0),.int .i64 (.ofNat 0)] [(0,1,k 3),(10,1,k 1)]),o 20 (.call 13 [.t 2,.t 19]),o 21 (.extract 0 (.t 20)),o 22 (.extract 1 (.t 20)),o 4 (.mv (.t 21)),o 5 (.mv (.t 22))])
 (.seq (.region [o 24 (.call 31 [.t 3,.v (.str 3 7954803)]),o 25 (.bin .eql (.t 24) (k 7)),g 27 (.mv (.t 5)) 25 true,g 28 (.bin .eql (.t 27) (k 0)) 25 true,o 29 (.pick (.t 25) (.t 28) (.v (.bool false))),g 31 (.mv (.t 4)) 29 true,g 32 (.lenSl (.t 31)) 29 true,g 33 (.bin .eql (.t 32) (k 1)) 29 true,o 34 (.pick (.t 29) (.t 33) (.v (.bool false))),g 36 (.mv (.t 4)) 34 true,g 37 (.idxAddrSl 6 (.t 36) (k 0)) 34 true,g 38 (.fieldAddr 0 (.t 37)) 34 true,g 39 (.load1 (.t 38)) 34 true,g 40 (.bin .eql (.t 39) (.v (.str 4 1818323300))) 34 true,o 41 (.pick (.t 34) (.t 40) (.v (.bool false))),g 43 (.mv (.t 2)) 41 true,g 44 (.call 21 [.t 43]) 41 true,g 45 (.lenSl (.t 44)) 41 true,g 46 (.bin .eql (.t 45) (k 1)) 41 true,o 47 (.pick (.t 41) (.t 46) (.v (.bool false))),o 0 (.mv (.t 47))])
 .ret)))))⟩
def e16 : T Unit := (eN (eN (eS (eN eU .leaf) (eN (eS .leaf eU) eU)) .leaf) (eS (eN eU (eN .leaf eU)) (eN (eS .leaf (eN .leaf eU)) (eN eU .leaf))))
def c17 : CFunc := ⟨14,[.tmp 2,.tmp 3],.seq (.region [o 2 (.mv (.v .nilptr)),o 3 (.mv (k 0))])
 (.seq (.seq (.region [o 5 (.bin .lss (.t 0) (k 1)),g 7 (.mv (.t 0)) 5 false,g 8 (.bin .gtr (.t 7) (k 1048576)) 5 false,o 9 (.pick (.t 5) (.v (.bool true)) (.t 8))])
 (.cond (.t 9)
 (.seq (.region [o 2 (.mv (.v .nilptr)),o 3 (.mv (k 1))])
 .ret)
 .skip))
 (.seq (.region [o 11 (.mkMap),o 12 (.build [.int .i64 (.ofNat 0),.nilmap,.bool false,.int .i64 (.ofNat 0),.int .i64 (.ofNat 0),.int .i64 (.ofNat 0)] [(0,1,.t 0),(1,1,.t 11)]),o 13 (.box 104 (.t 12)),o 2 (.mv (.t 13)),o 3 (.mv (k 0))])
 .ret))⟩
def e17 : T Unit := (eN (eN (eS .leaf eU) eU) .leaf)
def c18 : CFunc := ⟨25,[.tmp 4,.tmp 5],.seq (.region [o 2 (.box 31 (.t 0)),o 4 (.mv (.v .nilptr)),o 5 (.mv (k 0))])
 (.seq (.seq (.region [o 9 (.loadN 10 (.t 2)),o 10 (.call 33 [.t 9]),o 6 (.mv (.t 10))])
 (.seq (.region [o 12 (.bin .neq (.t 6) (k 0))])
 (.cond (.t 12)
 (.seq (.region [o 4 (.mv (.v .nilptr)),o 5 (.mv (.t 6))])
 .ret)
 .skip)))
 (.seq (.region [o 14 (.loadN 10 (.t 2)),o 16 (.mkMap),o 17 (.build [.str 0 0,.int .i64 (.ofNat 0),.int .i64 (.ofNat 0),.int .i64 (.ofNat 0),.int .i64 (.ofNat 0),.int .i64 (.ofNat 0),.int .i64 (.ofNat 0),.int .i64 (.ofNat 0),.int .i64 (.ofNat 0),.int .i64 (.ofNat 0),.nilptr,.nilptr,.nilptr,.nilptr,.nilptr,.nilptr,.nilptr,.nilptr,.nilptr,.nilmap,.nilslice] [(0,10,.t 14),(10,1,.t 1),(19,1,.t 16)]),o 18 (.box 99 (.t 17)),o 7 (.mv (.t 18))])
 (.seq (.seq (.region [o 20 (.call 44 [.t 7]),o 8 (.mv (.t 20))])
 (.seq (.region [o 22 (.bin .neq (.t 8) (k 0))])
 (.cond (.t 22)
 (.seq (.region [o 4 (.mv (.v .nilptr)),o 5 (.mv (.t 8))])
 .ret)
 .skip)))
 (.seq (.region [o 4 (.mv (.t 7)),o 5 (.mv (k 0))])
 .ret))))⟩
def e18 : T Unit := (eN (eN .leaf (eN .leaf (eN eU .leaf))) (eN (eN (eS .leaf eU) .leaf) (eN (eS .leaf eU) (eN eU eU))))
def c19 : CFunc := ⟨28,[.tmp 4],.seq (.region [o 4 (.mv (.v .nilslice))])
 (.seq (.region [o 5 (.mv (.v .nilslice))])
 (.seq (.seq (.region [o 6 (.mv (k 0))])
 (.block 0 (.loop (.seq (.seq (.region [o 11 (.lenSl (.t 1)),o 12 (.bin .lss (.t 6) (.t 11))])
 (.cond (.t 12)
 .skip
 (.exit 0)))
 (.seq (.block 1 (.seq (.region [o 19 (.idxAddrSl 13 (.t 1) (.t 6)),o 20 (.loadN 13 (.t 19)),o 21 (.call 13 [.t 0,.t 20]),o 22 (.extract 0 (.t 21)),o 23 (.extract 1 (.t 21)),o 7 (.mv (.t 22))])
 (.region [o 26 (.append 46 6 80 (.t 5) (.t 7)),o 5 (.mv (.t 26))])))
 (.region [o 14 (.bin .add (.t 6) (k 1)),o 6 (.mv (.t 14))]))))))
 (.seq (.region [o 4 (.mv (.t 5))])
 .ret)))⟩
def e19 : T Unit := (eN (eN (eN .leaf (eS .leaf eU)) (eN .leaf (eS eU eU))) (eN (eN eU (eS eU eU)) (eN (eN eU .leaf) (eN .leaf eU))))
def c20 : CFunc := ⟨37,[.tmp 8],.seq (.region [o 8 (.mv (.v .nilslice))])
 (.seq (.region [o 12 (.bin .add (.v (.str 18 5078819762497343558277470543797453348161605)) (.t 1)),o 13 (.bin .add (.t 12) (.v (.str 10 275360610726064621226509))),o 15 (.bin .add (.t 13) (.t 2)),o 16 (.bin .add (.t 15) (.v (.str 8 724306945204554253))),o 9 (.mv (.t 16))])
 (.seq (.seq (.region [o 10 (.mv (k 0))])
 (.block 0 (.loop (.seq (.seq (.region [o 19 (.lenSl (.t 3)),o 20 (.bin .lss (.t 10) (.t 19))])
 (.cond (.t 20)
 .skip
 (.exit 0)))
 (.seq (.block 1 (.region [o 26 (.idxAddrSl 1 (.t 3) (.t 10)),o 27 (.load1 (.t 26)),o 28 (.bin .add (.t 9) (.t 27)),o 29 (.bin .add (.t 28) (.v (.str 2 2573))),o 9 (.mv (.t 29))]))
 (.region [o 22 (.bin .add (.t 10) (k 1)),o 10 (.mv (.t 22))]))))))
 (.seq (.region [o 31 (.build [.int .i64 (.ofNat 0),.int .i64 (.ofNat 0),.int .i64 (.ofNat 0),.int .i64 (.ofNat 0),.str 0 0,.int .i64 (.ofNat 0),.int .i64 (.ofNat 0),.int .i64 (.ofNat 0),.int .i64 (.ofNat 0),.nilslice,.int .i64 (.ofNat 0),.int .i64 (.ofNat 0),.int .i64 (.ofNat 0)] [(1,1,.t 0)]),o 34 (.bin .add (.t 9) (.v (.str 9 185427913988412935470))),o 35 (.build [.int .i64 (.ofNat 0),.int .i64 (.ofNat 0),.int .i64 (.ofNat 0),.int .i64 (.ofNat 0),.str 0 0,.int .i64 (.ofNat 0),.int .i64 (.ofNat 0),.int .i64 (.ofNat 0),.int .i64 (.ofNat 0),.nilslice,.int .i64 (.ofNat 0),.int .i64 (.ofNat 0),.int .i64 (.ofNat 0)] [(0,1,k 1),(1,1,.t 0),(4,1,.t 34)]),o 36 (.buildSlice 43 13 2 [.int .i64 (.ofNat 0),.int .i64 (.ofNat 0),.int .i64 (.ofNat 0),.int .i64 (.ofNat 0),.str 0 0,.int .i64 (.ofNat 0),.int .i64 (.ofNat 0),.int .i64 (.ofNat 0),.int .i64 (.ofNat 0),.nilslice,.int .i64 (.ofNat 0),.int .i64 (.ofNat 0),.int .i64 (.ofNat 0)] [(0,13,.t 31),(13,13,.t 35)]),o 8 (.mv (.t 36))])
 .ret)))⟩
def e20 : T Unit := (eN (eN (eN (eS eU .leaf) (eN .leaf eU)) (eN .leaf (eN eU (eN .leaf eU)))) (eN (eN (eN .leaf eU) (eN eU (eS .leaf eU))) (eN eU (eN eU .leaf))))
def c21 : CFunc := ⟨8,[.tmp 2],.seq (.region [o 2 (.mv (.v .nilslice))])
 (.seq (.region [o 4 (.nilCheck (.t 0)),o 5 (.fieldAddr 11 (.t 4)),o 6 (.load1 (.t 5)),o 7 (.call 46 [.t 6]),o 2 (.mv (.t 7))])
 .ret)⟩
def e21 : T Unit := (eN .leaf (eN .leaf eU))
def c27 : CFunc := ⟨34,[.tmp 2,.tmp 3],.seq (.region [o 2 (.mv (.v (.str 0 0))),o 3 (.mv (k 0))])
 (.seq (.region [o 4 (.newc 111 [.nilptr,.nilslice])])
 (.seq (.region [o 5 (.mv (.v (.bool false)))])
 (.seq (.seq (.region [o 8 (.mv (.t 0)),o 9 (.lenSl (.t 8)),o 10 (.mv (k 0))])
 (.block 0 (.loop (.seq (.region [o 11 (.bin .lss (.t 10) (.t 9))])
 (.seq (.cond (.t 11)
 .skip
 (.exit 0))
 (.seq (.block 1 (.seq (.region [o 12 (.idxAddrSl 1 (.t 8) (.t 10)),o 13 (.load1 (.t 12)),o 7 (.mv (.t 13))])
 (.seq (.seq (.region [o 15 (.call 48 [.t 7]),o 16 (.un .not (.t 15))])
 (.cond (.t 16)
 (.seq (.region [o 2 (.mv (.v (.str 0 0))),o 3 (.mv (k 2))])
 .ret)
 .skip))
 (.seq (.region [g 19 (.mv (.t 7)) 5 false,g 20 (.lenStr (.t 19)) 5 false,g 21 (.bin .gtr (.t 20) (k 998)) 5 false,o 22 (.pick (.t 5) (.v (.bool true)) (.t 21)),o 5 (.mv (.t 22))])
 (.seq (.seq (.region [o 24 (.call 49 [.t 7,.v (.str 1 46)])])
 (.cond (.t 24)
 (.region [o 25 (.call 50 [.t 4,.v (.str 1 46)])])
 .skip))
 (.region [o 27 (.bin .add (.t 7) (.v (.str 2 2573))),o 28 (.call 50 [.t 4,.t 27])]))))))
 (.region [o 29 (.bin .add (.t 10) (k 1)),o 10 (.mv (.t 29))])))))))
 (.seq (.seq (.region [o 30 (.mv (.t 5))])
 (.cond (.t 30)
 (.seq (.region [o 2 (.mv (.v (.str 0 0))),o 3 (.mv (k 3))])
 .ret)
 .skip))
 (.seq (.region [o 31 (.call 51 [.t 4]),o 32 (.bin .add (.t 31) (.v (.str 1 46))),o 33 (.bin .add (.t 32) (.v (.str 2 2573))),o 2 (.mv (.t 33)),o 3 (.mv (k 0))])
 .ret)))))⟩
def e27 : T Unit := (eN (eN (eN eU (eN eU eU)) .leaf) (eN (eN .leaf (eN .leaf eU)) (eN .leaf (eN eU .leaf))))
def c30 : CFunc := ⟨8,[.tmp 2],.seq (.region [o 2 (.mv (k 0))])
 (.seq (.region [o 4 (.nilCheck (.t 0)),o 5 (.fieldAddr 12 (.t 4)),o 6 (.load1 (.t 5)),o 7 (.call 54 [.t 6]),o 2 (.mv (.t 7))])
 .ret)⟩
def e30 : T Unit := (eN .leaf (eN .leaf eU))
def c31 : CFunc := ⟨23,[.tmp 4],.seq (.region [o 4 (.mv (k 0))])
 (.seq (.region [o 5 (.mv (k 0))])
 (.seq (.seq (.region [o 6 (.mv (k 0))])
 (.block 0 (.loop (.seq (.seq (.region [o 9 (.lenSl (.t 0)),o 10 (.bin .lss (.t 6) (.t 9))])
 (.cond (.t 10)
 .skip
 (.exit 0)))
 (.seq (.block 1 (.seq (.region [o 15 (.idxAddrSl 6 (.t 0) (.t 6)),o 16 (.fieldAddr 0 (.t 15)),o 17 (.load1 (.t 16)),o 19 (.bin .eql (.t 17) (.t 1))])
 (.cond (.t 19)
 (.region [o 21 (.bin .add (.t 5) (k 1)),o 5 (.mv (.t 21))])
 .skip)))
 (.region [o 12 (.bin .add (.t 6) (k 1)),o 6 (.mv (.t 12))]))))))
 (.seq (.region [o 4 (.mv (.t 5))])
 .ret)))⟩
def e31 : T Unit := (eN (eN (eN (eS .leaf eU) (eN .leaf eU)) (eN (eN .leaf eU) eU)) (eN (eN eU .leaf) (eN eU eU)))
def c33 : CFunc := ⟨50,[.tmp 2],.seq (.region [o 1 (.box 31 (.t 0)),o 2 (.mv (k 0))])
 (.seq (.region [o 10 (.fieldAddr 0 (.t 1)),o 11 (.load1 (.t 10)),o 12 (.fieldAddr 1 (.t 1)),o 13 (.load1 (.t 12)),o 14 (.fieldAddr 2 (.t 1)),o 15 (.load1 (.t 14)),o 16 (.call 56 [.t 11,.t 13,.t 15]),o 17 (.extract 0 (.t 16)),o 18 (.extract 1 (.t 16)),o 4 (.mv (.t 18))])
 (.seq (.region [o 20 (.fieldAddr 7 (.t 1)),o 21 (.load1 (.t 20)),o 22 (.fieldAddr 8 (.t 1)),o 23 (.load1 (.t 22)),o 24 (.call 57 [.t 21,.t 23,k 4096]),o 25 (.extract 0 (.t 24)),o 26 (.extract 1 (.t 24)),o 6 (.mv (.t 26))])
 (.seq (.region [o 28 (.fieldAddr 9 (.t 1)),o 29 (.load1 (.t 28)),o 30 (.call 58 [k 0,.t 29]),o 31 (.extract 0 (.t 30)),o 32 (.extract 1 (.t 30)),o 8 (.mv (.t 32))])
 (.seq (.block 0 (.seq (.region [o 35 (.bin .neq (.t 4) (k 0)),o 33 (.mv (.t 35))])
 (.cond (.t 33)
 (.seq (.region [o 2 (.mv (.t 4))])
 .ret)
 (.seq (.region [o 39 (.bin .neq (.t 6) (k 0)),g 41 (.mv (.t 8)) 39 false,g 42 (.bin .neq (.t 41) (k 0)) 39 false,o 43 (.pick (.t 39) (.v (.bool true)) (.t 42)),g 45 (.fieldAddr 3 (.t 1)) 43 false,g 46 (.loadN 4 (.t 45)) 43 false,g 47 (.call 59 [.t 46]) 43 false,g 48 (.bin .neq (.t 47) (k 0)) 43 false,o 49 (.pick (.t 43) (.v (.bool true)) (.t 48)),o 37 (.mv (.t 49))])
 (.cond (.t 37)
 (.seq (.region [o 2 (.mv (k 1))])
 .ret)
 .skip)))))
 (.seq (.region [o 2 (.mv (k 0))])
 .ret)))))⟩
def e33 : T Unit := (eN (eN (eN (eN .leaf (eN .leaf eU)) (eN .leaf (eN .leaf eU))) (eN (eN (eN .leaf eU) (eN .leaf eU)) (eN (eN .leaf eU) .leaf))) (eN (eS .leaf eU) (eS (eN eU eU) eU)))
def c34 : CFunc := ⟨56,[.tmp 4],.seq (.region [o 3 (.box 43 (.t 1)),o 4 (.mv (k 0))])
 (.seq (.seq (.draw [o 9 (.mv (.t 0)),o 10 (.fieldAddr 1 (.t 3)),⟨some 11,.load1 (.t 10),none,2⟩,⟨some 12,.nilCheck (.t 9),none,1⟩,⟨some 13,.fieldAddr 15 (.t 12),none,9⟩,⟨some 14,.idxAddrArr 4 1 (.t 13) (.t 11),none,31⟩,⟨some 15,.load1 (.t 14),none,63⟩,⟨some 16,.eql true (.leaf 3) (.t 15) (.v .nilptr),none,127⟩])
 (.cond (.t 16)
 (.seq (.region [o 4 (.mv (k 5))])
 .ret)
 .skip))
 (.seq (.draw [o 18 (.mv (.t 0)),⟨some 19,.nilCheck (.t 18),none,1⟩,⟨some 20,.fieldAddr 0 (.t 19),none,3⟩,⟨some 21,.fieldAddr 0 (.t 20),none,7⟩,⟨some 22,.load1 (.t 21),none,15⟩,o 23 (.mv (.t 0)),⟨some 24,.nilCheck (.t 23),none,32⟩,⟨some 25,.fieldAddr 0 (.t 24),none,96⟩,⟨some 26,.fieldAddr 1 (.t 25),none,224⟩,⟨some 27,.load1 (.t 26),none,480⟩,o 28 (.mv (.t 0)),⟨some 29,.nilCheck (.t 28),none,1024⟩,⟨some 30,.fieldAddr 0 (.t 29),none,3072⟩,⟨some 31,.fieldAddr 2 (.t 30),none,7168⟩,⟨some 32,.load1 (.t 31),none,15360⟩,⟨some 33,.call 56 [.t 22,.t 27,.t 32],none,32767⟩,⟨some 17,.mv (.t 33),none,65535⟩,⟨some 34,.extract 0 (.t 17),none,131071⟩,⟨some 35,.extract 1 (.t 17),none,131071⟩,⟨some 5,.mv (.t 34),none,262143⟩,⟨some 6,.mv (.t 35),none,1048575⟩])
 (.seq (.region [o 37 (.call 60 [k 1000]),o 38 (.extract 0 (.t 37)),o 39 (.extract 1 (.t 37)),o 7 (.mv (.t 38))])
 (.seq (.draw [o 40 (.mv (.t 0)),o 41 (.fieldAddr 1 (.t 3)),⟨some 42,.load1 (.t 41),none,2⟩,o 43 (.mv (.t 5)),o 44 (.mv (.t 7)),⟨some 45,.build [.nilptr,.nilptr] [(0,1,.t 43),(1,1,.t 44)],none,24⟩,⟨some 46,.box 135 (.t 45),none,56⟩,⟨some 47,.nilCheck (.t 40),none,1⟩,⟨some 48,.fieldAddr 15 (.t 47),none,129⟩,⟨some 49,.idxAddrArr 4 1 (.t 48) (.t 42),none,511⟩,⟨none,.store 1 (.t 49) (.t 46),none,1023⟩])
 (.seq (.draw [o 50 (.mv (.t 0)),o 51 (.fieldAddr 1 (.t 3)),⟨some 52,.load1 (.t 51),none,2⟩,o 53 (.mv (.t 5)),⟨some 54,.call 62 [.t 53],none,8⟩,⟨some 55,.call 61 [.t 50,.t 52,.t 54],none,31⟩])
 (.seq (.region [o 4 (.mv (k 0))])
 .ret))))))⟩
def e34 : T Unit := (eN (eN .leaf (eN (eN .leaf (eN .leaf eU)) eU)) .leaf)
def c35 : CFunc := ⟨99,[.tmp 4],.seq (.region [o 3 (.box 43 (.t 1)),o 4 (.mv (k 0))])
 (.seq (.draw [o 12 (.mv (.t 0)),o 13 (.fieldAddr 1 (.t 3)),⟨some 14,.load1 (.t 13),none,2⟩,⟨some 15,.nilCheck (.t 12),none,1⟩,⟨some 16,.fieldAddr 15 (.t 15),none,9⟩,⟨some 17,.idxAddrArr 4 1 (.t 16) (.t 14),none,31⟩,⟨some 18,.load1 (.t 17),none,63⟩,⟨some 5,.mv (.t 18),none,127⟩])
 (.seq (.seq (.region [o 20 (.eql false (.leaf 3) (.t 5) (.v .nilptr))])
 (.cond (.t 20)
 (.seq (.region [o 4 (.mv (k 4))])
 .ret)
 .skip))
 (.seq (.seq (.draw [o 21 (.mv (.t 5)),⟨some 22,.nilCheck (.t 21),none,1⟩,⟨some 23,.fieldAddr 1 (.t 22),none,3⟩,⟨some 24,.load1 (.t 23),none,7⟩,o 25 (.fieldAddr 4 (.t 3)),⟨some 26,.load1 (.t 25),none,16⟩,⟨some 27,.buildSlice 9 1 1 [.str 0 0] [(0,1,.t 26)],none,48⟩,⟨some 28,.call 63 [.t 24,.t 27],none,127⟩,⟨some 29,.lenSl (.t 28),none,255⟩,o 30 (.mv (k 0))])
 (.block 0 (.loop (.seq (.region [o 31 (.bin .lss (.t 30) (.t 29))])
 (.seq (.cond (.t 31)
 .skip
 (.exit 0))
 (.seq (.block 1 (.seq (.region [o 32 (.idxAddrSl 2 (.t 28) (.t 30)),o 33 (.loadN 2 (.t 32)),o 7 (.newc 141 [.str 0 0,.int .i64 (.ofNat 0)]),⟨none,.store 2 (.t 7) (.t 33),none,0⟩])
 (.seq (.seq (.draw [o 34 (.mv (.t 0)),⟨some 35,.nilCheck (.t 34),none,1⟩,⟨some 36,.fieldAddr 10 (.t 35),none,3⟩,⟨some 37,.load1 (.t 36),none,7⟩,⟨some 38,.call 42 [.t 37],none,15⟩,⟨some 39,.mv (.t 38),none,31⟩,⟨some 40,.mv (.t 0),some (.t 39,false),63⟩,⟨some 41,.fieldAddr 1 (.t 3),some (.t 39,false),63⟩,⟨some 42,.load1 (.t 41),some (.t 39,false),191⟩,⟨some 43,.nilCheck (.t 40),some (.t 39,false),127⟩,⟨some 44,.fieldAddr 15 (.t 43),some (.t 39,false),639⟩,⟨some 45,.idxAddrArr 4 1 (.t 44) (.t 42),some (.t 39,false),2047⟩,⟨some 46,.load1 (.t 45),some (.t 39,false),4095⟩,⟨some 47,.eql false (.leaf 3) (.t 46) (.v .nilptr),some (.t 39,false),8191⟩,⟨some 48,.pick (.t 39) (.v (.bool true)) (.t 47),none,16383⟩])
 (.cond (.t 48)
 (.exit 0)
 .skip))
 (.seq (.seq (.draw [o 50 (.mv (.t 5)),⟨some 51,.nilCheck (.t 50),none,1⟩,⟨some 52,.fieldAddr 0 (.t 51),none,3⟩,⟨some 53,.load1 (.t 52),none,7⟩,o 54 (.loadN 2 (.t 7)),o 55 (.mv (.t 0)),⟨some 56,.call 30 [.t 55],none,32⟩,o 57 (.mv (.t 0)),⟨some 58,.nilCheck (.t 57),none,128⟩,⟨some 59,.fieldAddr 11 (.t 58),none,384⟩,⟨some 60,.load1 (.t 59),none,896⟩,⟨some 61,.call 46 [.t 60],none,2016⟩,⟨some 62,.lenSl (.t 61),none,4064⟩,⟨some 63,.bin .lss (.t 62) (k 24),none,8160⟩,⟨some 64,.call 64 [.t 53,.t 54,.t 56,.t 63],none,16383⟩,⟨some 49,.mv (.t 64),none,32767⟩,⟨some 65,.extract 0 (.t 49),none,65535⟩,⟨some 66,.extract 1 (.t 49),none,65535⟩,o 8 (.newc 39 [.int .i64 (.ofNat 0),.int .i64 (.ofNat 0),.int .i64 (.ofNat 0),.int .i64 (.ofNat 0),.nilslice]),⟨none,.store 5 (.t 8) (.t 65),none,393215⟩,⟨some 9,.mv (.t 66),none,1048575⟩])
 (.seq (.region [o 67 (.mv (.t 9))])
 (.cond (.t 67)
 (.region [o 69 (.fieldAddr 1 (.t 3)),o 70 (.load1 (.t 69)),o 71 (.loadN 5 (.t 8)),o 72 (.call 61 [.t 0,.t 70,.t 71])])
 .skip)))
 (.seq (.seq (.region [o 75 (.nilCheck (.t 5)),o 76 (.fieldAddr 0 (.t 75)),o 77 (.load1 (.t 76)),o 78 (.call 65 [.t 77]),o 79 (.extract 0 (.t 78)),o 80 (.extract 1 (.t 78)),o 10 (.newc 69 [.int .i64 (.ofNat 0),.int .i64 (.ofNat 0),.int .i64 (.ofNat 0),.str 0 0,.str 0 0,.bool false,.bool false,.bool false,.bool false,.bool false,.int .i64 (.ofNat 0),.int .i64 (.ofNat 0),.int .i64 (.ofNat 0),.int .i64 (.ofNat 0),.int .i64 (.ofNat 0),.str 0 0,.str 0 0,.str 0 0,.str 0 0,.nilslice,.nilslice]),⟨none,.store 21 (.t 10) (.t 79),none,0⟩,o 11 (.mv (.t 80))])
 (.seq (.region [o 81 (.mv (.t 11))])
 (.cond (.t 81)
 (.region [o 83 (.fieldAddr 1 (.t 3)),o 84 (.load1 (.t 83)),o 85 (.loadN 21 (.t 10)),o 86 (.call 66 [.t 0,.t 84,.t 85])])
 .skip)))
 (.seq (.region [o 88 (.nilCheck (.t 5)),o 89 (.fieldAddr 0 (.t 88)),o 90 (.load1 (.t 89)),o 91 (.call 67 [.t 90])])
 (.cond (.t 91)
 (.draw [o 92 (.mv (.t 0)),o 93 (.fieldAddr 1 (.t 3)),⟨some 94,.load1 (.t 93),none,2⟩,⟨some 95,.nilCheck (.t 92),none,1⟩,⟨some 96,.fieldAddr 15 (.t 95),none,9⟩,⟨some 97,.idxAddrArr 4 1 (.t 96) (.t 94),none,31⟩,⟨none,.store 1 (.t 97) (.v .nilptr),none,63⟩])
 .skip)))))))
 (.region [o 98 (.bin .add (.t 30) (k 1)),o 30 (.mv (.t 98))])))))))
 (.seq (.region [o 4 (.mv (k 0))])
 .ret))))⟩
def e35 : T Unit := (eN (eN (eN .leaf (eN (eN .leaf (eN .leaf eU)) (eN (eN .leaf eU) .leaf))) (eN (eN .leaf (eN .leaf (eN .leaf eU))) .leaf)) (eN (eN .leaf (eN (eN .leaf (eN .leaf eU)) .leaf)) (eN (eN .leaf eU) (eN (eN (eN .leaf eU) .leaf) .leaf))))
def c37 : CFunc := ⟨56,[.tmp 4],.seq (.region [o 3 (.box 43 (.t 1)),o 4 (.mv (k 0))])
 (.seq (.draw [o 8 (.mv (.t 0)),⟨some 9,.nilCheck (.t 8),none,1⟩,⟨some 10,.fieldAddr 12 (.t 9),none,3⟩,⟨some 11,.load1 (.t 10),none,7⟩,o 12 (.fieldAddr 10 (.t 3)),⟨some 13,.load1 (.t 12),none,16⟩,⟨some 14,.call 68 [.t 11,.t 13],none,63⟩])
 (.seq (.seq (.region [o 16 (.nilCheck (.t 0)),o 17 (.fieldAddr 12 (.t 16)),o 18 (.load1 (.t 17)),o 19 (.call 69 [.t 18]),o 20 (.un .not (.t 19))])
 (.cond (.t 20)
 (.seq (.region [o 4 (.mv (k 0))])
 .ret)
 .skip))
 (.seq (.region [o 23 (.call 30 [.t 0]),o 24 (.call 71 [.t 23]),o 25 (.buildSlice 9 1 1 [.str 0 0] [(0,1,.t 24)]),o 26 (.call 70 [.t 25]),o 27 (.extract 0 (.t 26)),o 28 (.extract 1 (.t 26)),o 5 (.mv (.t 27))])
 (.seq (.region [o 30 (.nilCheck (.t 0)),o 31 (.fieldAddr 10 (.t 30)),o 32 (.load1 (.t 31)),o 34 (.call 72 [.t 32,.v (.str 3 6827636),.t 5]),o 7 (.mv (.t 34))])
 (.seq (.seq (.region [o 36 (.bin .eql (.t 7) (k 0))])
 (.cond (.t 36)
 (.region [o 38 (.nilCheck (.t 0)),o 39 (.fieldAddr 10 (.t 38)),o 40 (.load1 (.t 39)),o 41 (.call 73 [.t 40,.v (.str 3 6827636)]),o 7 (.mv (.t 41))])
 .skip))
 (.seq (.seq (.region [o 43 (.bin .eql (.t 7) (k 0))])
 (.cond (.t 43)
 (.region [o 45 (.nilCheck (.t 0)),o 46 (.fieldAddr 10 (.t 45)),o 47 (.load1 (.t 46)),o 48 (.call 74 [.t 47,.v (.str 3 6827636),.v (.str 1 104)]),o 7 (.mv (.t 48))])
 .skip))
 (.seq (.seq (.region [o 50 (.bin .eql (.t 7) (k 0))])
 (.cond (.t 50)
 (.region [o 52 (.nilCheck (.t 0)),o 53 (.fieldAddr 12 (.t 52)),o 54 (.load1 (.t 53)),o 55 (.call 75 [.t 54])])
 .skip))
 (.seq (.region [o 4 (.mv (k 0))])
 .ret))))))))⟩
def e37 : T Unit := (eN (eN (eS (eN .leaf eU) (eN (eN .leaf eU) .leaf)) (eN (eN (eN .leaf eU) .leaf) .leaf)) (eN (eN (eN eU (eS .leaf eU)) (eN .leaf (eN eU eU))) (eN (eN .leaf (eN eU eU)) (eN .leaf eU))))
def c41 : CFunc := ⟨58,[],.seq (.draw [o 10 (.mv (.t 0)),⟨some 11,.nilCheck (.t 10),none,1⟩,⟨some 12,.fieldAddr 13 (.t 11),none,3⟩,⟨some 13,.load1 (.t 12),none,7⟩,o 14 (.mv (.t 0)),⟨some 15,.call 30 [.t 14],none,16⟩,⟨some 16,.call 85 [.t 13,.t 15,k 1048576],none,63⟩,⟨some 9,.mv (.t 16),none,127⟩,⟨some 17,.extract 0 (.t 9),none,255⟩,⟨some 18,.extract 1 (.t 9),none,255⟩,⟨some 19,.extract 2 (.t 9),none,255⟩,⟨some 2,.mv (.t 17),none,511⟩,⟨some 3,.mv (.t 18),none,3071⟩,⟨some 4,.mv (.t 19),none,8191⟩])
 (.seq (.seq (.region [o 20 (.mv (.t 2)),o 21 (.lenSl (.t 20)),o 22 (.mv (k 0))])
 (.block 0 (.loop (.seq (.region [o 23 (.bin .lss (.t 22) (.t 21))])
 (.seq (.cond (.t 23)
 .skip
 (.exit 0))
 (.seq (.block 1 (.seq (.region [o 24 (.idxAddrSl 1 (.t 20) (.t 22)),o 25 (.load1 (.t 24)),o 6 (.mv (.t 25))])
 (.seq (.region [o 27 (.nilCheck (.t 0)),o 28 (.fieldAddr 10 (.t 27)),o 29 (.load1 (.t 28)),o 30 (.call 42 [.t 29]),o 31 (.un .not (.t 30))])
 (.cond (.t 31)
 (.region [o 34 (.call 86 [.t 0,.t 6])])
 .skip))))
 (.region [o 35 (.bin .add (.t 22) (k 1)),o 22 (.mv (.t 35))])))))))
 (.block 2 (.loop (.seq (.seq (.region [o 37 (.nilCheck (.t 0)),o 38 (.fieldAddr 10 (.t 37)),o 39 (.load1 (.t 38)),o 40 (.call 42 [.t 39]),o 41 (.un .not (.t 40))])
 (.cond (.t 41)
 .skip
 (.exit 2)))
 (.block 3 (.seq (.draw [o 43 (.mv (.t 0)),⟨some 44,.nilCheck (.t 43),none,1⟩,⟨some 45,.fieldAddr 14 (.t 44),none,3⟩,⟨some 46,.load1 (.t 45),none,7⟩,o 47 (.mv (.t 0)),⟨some 48,.call 30 [.t 47],none,16⟩,⟨some 49,.call 87 [.t 46,.t 48],none,63⟩,⟨some 42,.mv (.t 49),none,127⟩,⟨some 50,.extract 0 (.t 42),none,255⟩,⟨some 51,.extract 1 (.t 42),none,255⟩,o 7 (.newc 164 [.int .i64 (.ofNat 0),.str 0 0,.int .i64 (.ofNat 0),.int .i64 (.ofNat 0)]),⟨none,.store 4 (.t 7) (.t 50),none,1535⟩,⟨some 8,.mv (.t 51),none,4095⟩])
 (.seq (.seq (.region [o 53 (.un .not (.t 8))])
 (.cond (.t 53)
 .ret
 .skip))
 (.region [o 55 (.fieldAddr 0 (.t 7)),o 56 (.load1 (.t 55)),o 57 (.call 88 [.t 0,.t 56])]))))))))⟩
def e41 : T Unit := (eN (eN (eN (eN .leaf (eN eU .leaf)) (eN eU .leaf)) (eN (eN .leaf (eN eU eU)) (eN .leaf (eN .leaf eU)))) (eN (eN .leaf (eN .leaf (eN .leaf eU))) .leaf))
def c42 : CFunc := ⟨7,[.tmp 2],.seq (.region [o 2 (.mv (.v (.bool false)))])
 (.seq (.region [o 4 (.nilCheck (.t 0)),o 5 (.fieldAddr 2 (.t 4)),o 6 (.load1 (.t 5)),o 2 (.mv (.t 6))])
 .ret)⟩
def e42 : T Unit := (eN .leaf (eN .leaf eU))
def c44 : CFunc := ⟨110,[.tmp 2],.seq (.region [o 2 (.mv (k 0))])
 (.seq (.region [o 14 (.nilCheck (.t 0)),o 15 (.fieldAddr 10 (.t 14)),o 16 (.load1 (.t 15)),o 17 (.call 89 [.t 16]),o 18 (.extract 0 (.t 17)),o 19 (.extract 1 (.t 17)),o 3 (.mv (.t 18)),o 4 (.mv (.t 19))])
 (.seq (.seq (.region [o 21 (.bin .neq (.t 4) (k 0))])
 (.cond (.t 21)
 (.seq (.region [o 2 (.mv (.t 4))])
 .ret)
 .skip))
 (.seq (.region [o 25 (.nilCheck (.t 0)),o 26 (.fieldAddr 10 (.t 25)),o 27 (.load1 (.t 26)),o 28 (.call 90 [.t 27]),o 29 (.extract 0 (.t 28)),o 30 (.extract 1 (.t 28)),o 5 (.mv (.t 29)),o 4 (.mv (.t 30))])
 (.seq (.seq (.region [o 32 (.bin .neq (.t 4) (k 0))])
 (.cond (.t 32)
 (.seq (.region [o 2 (.mv (.t 4))])
 .ret)
 .skip))
 (.seq (.region [o 36 (.nilCheck (.t 0)),o 37 (.fieldAddr 11 (.t 36)),⟨none,.store 1 (.t 37) (.t 3),none,0⟩])
 (.seq (.region [o 39 (.nilCheck (.t 0)),o 40 (.fieldAddr 19 (.t 39)),o 41 (.load1 (.t 40)),⟨none,.clear [] (.t 41),none,0⟩])
 (.seq (.region [o 43 (.nilCheck (.t 0)),o 44 (.fieldAddr 15 (.t 43)),o 45 (.sliceArr 4 1 (.t 44) none none none),⟨none,.clear [.nilptr] (.t 45),none,0⟩])
 (.seq (.region [o 50 (.nilCheck (.t 0)),o 51 (.fieldAddr 0 (.t 50)),o 52 (.fieldAddr 9 (.t 51)),o 53 (.load1 (.t 52)),o 54 (.call 58 [.t 5,.t 53]),o 55 (.extract 0 (.t 54)),o 56 (.extract 1 (.t 54)),o 57 (.nilCheck (.t 0)),o 58 (.fieldAddr 12 (.t 57)),⟨none,.store 1 (.t 58) (.t 55),none,0⟩])
 (.seq (.region [o 62 (.call 91 [.t 5]),o 63 (.extract 0 (.t 62)),o 64 (.extract 1 (.t 62)),o 65 (.nilCheck (.t 0)),o 66 (.fieldAddr 13 (.t 65)),⟨none,.store 1 (.t 66) (.t 63),none,0⟩])
 (.seq (.draw [o 68 (.mv (.t 0)),o 69 (.mv (.t 0)),⟨some 70,.nilCheck (.t 69),none,2⟩,⟨some 71,.fieldAddr 0 (.t 70),none,6⟩,⟨some 72,.fieldAddr 7 (.t 71),none,14⟩,⟨some 73,.load1 (.t 72),none,30⟩,o 74 (.mv (.t 0)),⟨some 75,.nilCheck (.t 74),none,64⟩,⟨some 76,.fieldAddr 0 (.t 75),none,192⟩,⟨some 77,.fieldAddr 8 (.t 76),none,448⟩,⟨some 78,.load1 (.t 77),none,960⟩,⟨some 79,.call 57 [.t 73,.t 78,k 4096],none,2046⟩,⟨some 67,.mv (.t 79),none,4094⟩,⟨some 80,.extract 0 (.t 67),none,8190⟩,⟨some 81,.extract 1 (.t 67),none,8190⟩,⟨some 82,.nilCheck (.t 68),none,16383⟩,⟨some 83,.fieldAddr 14 (.t 82),none,49151⟩,⟨none,.store 1 (.t 83) (.t 80),none,114687⟩])
 (.seq (.seq (.region [o 85 (.call 46 [.t 3]),o 86 (.lenSl (.t 85)),o 87 (.mv (k 0))])
 (.block 0 (.loop (.seq (.region [o 88 (.bin .lss (.t 87) (.t 86))])
 (.seq (.cond (.t 88)
 .skip
 (.exit 0))
 (.seq (.block 1 (.seq (.region [o 89 (.idxAddrSl 1 (.t 85) (.t 87)),o 90 (.load1 (.t 89)),o 7 (.mv (.t 90))])
 (.seq (.region [o 94 (.call 47 [.t 3,.t 7]),o 95 (.extract 0 (.t 94)),o 96 (.extract 1 (.t 94)),o 97 (.extract 2 (.t 94)),o 8 (.newc 69 [.int .i64 (.ofNat 0),.int .i64 (.ofNat 0),.int .i64 (.ofNat 0),.str 0 0,.str 0 0,.bool false,.bool false,.bool false,.bool false,.bool false,.int .i64 (.ofNat 0),.int .i64 (.ofNat 0),.int .i64 (.ofNat 0),.int .i64 (.ofNat 0),.int .i64 (.ofNat 0),.str 0 0,.str 0 0,.str 0 0,.str 0 0,.nilslice,.nilslice]),⟨none,.store 21 (.t 8) (.t 95),none,0⟩,o 9 (.mv (.t 96))])
 (.seq (.region [o 99 (.call 92 [.t 9])])
 (.cond (.t 99)
 (.region [o 102 (.call 93 [.t 0,.t 7])])
 (.seq (.region [o 105 (.call 94 [.t 3,.t 7]),o 11 (.mv (.t 105))])
 (.seq (.region [o 107 (.bin .neq (.t 11) (k 0))])
 (.cond (.t 107)
 (.seq (.region [o 2 (.mv (.t 11))])
 .ret)
 .skip))))))))
 (.region [o 109 (.bin .add (.t 87) (k 1)),o 87 (.mv (.t 109))])))))))
 (.seq (.region [o 2 (.mv (k 0))])
 .ret))))))))))))⟩
def e44 : T Unit := (eN (eN (eN (eN (eN .leaf eU) (eS .leaf eU)) (eS (eN .leaf (eS eU .leaf)) (eN .leaf (eS eU .leaf)))) (eN (eS (eN (eS .leaf eU) (eN eU .leaf)) (eS (eN .leaf eU) (eN eU .leaf))) (eN (eS .leaf (eN eU .leaf)) (eN eU .leaf)))) (eN (eN (eS (eN (eS .leaf eU) .leaf) (eN .leaf (eN eU .leaf))) (eN .leaf (eN eU eU))) (eN (eN (eN (eS .leaf eU) .leaf) (eN .leaf eU)) (eN (eS .leaf (eN eU .leaf)) (eN eU eU)))))
def c45 : CFunc := ⟨19,[],.seq (.region [o 5 (.nilCheck (.t 0)),o 6 (.fieldAddr 10 (.t 5)),o 7 (.load1 (.t 6)),o 8 (.call 42 [.t 7]),o 9 (.un .not (.t 8))])
 (.cond (.t 9)
 (.region [o 12 (.nilCheck (.t 0)),o 13 (.fieldAddr 20 (.t 12)),o 14 (.load1 (.t 13)),o 16 (.append 46 6 80 (.t 14) (.t 1)),o 17 (.nilCheck (.t 0)),o 18 (.fieldAddr 20 (.t 17)),⟨none,.store 1 (.t 18) (.t 16),none,0⟩])
 .skip)⟩
def e45 : T Unit := (eN (eN (eN .leaf eU) eU) (eN .leaf (eN eU (eN .leaf eU))))
def c46 : CFunc := ⟨9,[.tmp 2],.seq (.region [o 2 (.mv (.v .nilslice))])
 (.seq (.region [o 4 (.nilCheck (.t 0)),o 5 (.fieldAddr 1 (.t 4)),o 6 (.load1 (.t 5)),o 7 (.call 95 [.t 6]),o 8 (.call 52 [.t 7]),o 2 (.mv (.t 8))])
 .ret)⟩
def e46 : T Unit := (eN .leaf (eN .leaf eU))
def c47 : CFunc := ⟨38,[.cell 4 (some 21),.tmp 5,.tmp 6],.seq (.region [o 4 (.newc 69 [.int .i64 (.ofNat 0),.int .i64 (.ofNat 0),.int .i64 (.ofNat 0),.str 0 0,.str 0 0,.bool false,.bool false,.bool false,.bool false,.bool false,.int .i64 (.ofNat 0),.int .i64 (.ofNat 0),.int .i64 (.ofNat 0),.int .i64 (.ofNat 0),.int .i64 (.ofNat 0),.str 0 0,.str 0 0,.str 0 0,.str 0 0,.nilslice,.nilslice]),o 5 (.mv (.v .nilslice)),o 6 (.mv (k 0))])
 (.seq (.region [o 11 (.nilCheck (.t 0)),o 12 (.fieldAddr 1 (.t 11)),o 13 (.load1 (.t 12)),o 15 (.lookup false (.agg [.int .i64 (.ofNat 0),.int .i64 (.ofNat 0),.int .i64 (.ofNat 0),.str 0 0,.str 0 0,.bool false,.bool false,.bool false,.bool false,.bool false,.int .i64 (.ofNat 0),.int .i64 (.ofNat 0),.int .i64 (.ofNat 0),.int .i64 (.ofNat 0),.int .i64 (.ofNat 0),.str 0 0,.str 0 0,.str 0 0,.str 0 0,.nilslice,.nilslice,.nilslice]) true (.t 13) (.t 1)),o 16 (.extract 0 (.t 15)),o 17 (.extract 1 (.t 15)),o 7 (.newc 179 [.int .i64 (.ofNat 0),.int .i64 (.ofNat 0),.int .i64 (.ofNat 0),.str 0 0,.str 0 0,.bool false,.bool false,.bool false,.bool false,.bool false,.int .i64 (.ofNat 0),.int .i64 (.ofNat 0),.int .i64 (.ofNat 0),.int .i64 (.ofNat 0),.int .i64 (.ofNat 0),.str 0 0,.str 0 0,.str 0 0,.str 0 0,.nilslice,.nilslice,.nilslice]),⟨none,.store 22 (.t 7) (.t 16),none,0⟩,o 8 (.mv (.t 17))])
 (.seq (.seq (.region [o 19 (.un .not (.t 8))])
 (.cond (.t 19)
 (.seq (.region [o 20 (.build [.int .i64 (.ofNat 0),.int .i64 (.ofNat 0),.int .i64 (.ofNat 0),.str 0 0,.str 0 0,.bool false,.bool false,.bool false,.bool false,.bool false,.int .i64 (.ofNat 0),.int .i64 (.ofNat 0),.int .i64 (.ofNat 0),.int .i64 (.ofNat 0),.int .i64 (.ofNat 0),.str 0 0,.str 0 0,.str 0 0,.str 0 0,.nilslice,.nilslice] []),⟨none,.store 21 (.t 4) (.t 20),none,0⟩,o 5 (.mv (.v .nilslice)),o 6 (.mv (k 4))])
 .ret)
 .skip))
 (.seq (.draw [o 21 (.fieldAddr 0 (.t 7)),⟨some 22,.fieldAddr 19 (.t 21),none,1⟩,⟨some 23,.load1 (.t 22),none,3⟩,⟨some 24,.call 96 [.t 23],none,7⟩,o 25 (.fieldAddr 0 (.t 7)),⟨some 26,.fieldAddr 20 (.t 25),none,16⟩,⟨some 27,.load1 (.t 26),none,48⟩,⟨some 28,.call 97 [.t 27],none,127⟩,⟨some 29,.fieldAddr 0 (.t 7),none,127⟩,⟨some 30,.fieldAddr 19 (.t 29),none,383⟩,⟨none,.store 1 (.t 30) (.t 24),none,1023⟩,⟨some 31,.fieldAddr 0 (.t 7),none,2047⟩,⟨some 32,.fieldAddr 20 (.t 31),none,4095⟩,⟨none,.store 1 (.t 32) (.t 28),none,8191⟩])
 (.seq (.draw [o 33 (.fieldAddr 0 (.t 7)),⟨some 34,.loadN 21 (.t 33),none,1⟩,o 35 (.fieldAddr 21 (.t 7)),⟨some 36,.load1 (.t 35),none,4⟩,⟨some 37,.call 98 [.t 36],none,12⟩,⟨none,.store 21 (.t 4) (.t 34),none,31⟩,⟨some 5,.mv (.t 37),none,63⟩,⟨some 6,.mv (k 0),none,127⟩])
 .ret))))⟩
def e47 : T Unit := (eN (eN (eN eU (eS .leaf eU)) .leaf) (eN (eN .leaf eU) .leaf))
def c48 : CFunc := ⟨6,[.tmp 2],.seq (.region [o 2 (.mv (.v (.bool false)))])
 (.seq (.region [o 4 (.call 99 [.t 0,.v (.str 3 658688)]),o 5 (.un .not (.t 4)),o 2 (.mv (.t 5))])
 .ret)⟩
def e48 : T Unit := (eN .leaf (eN .leaf eU))
def c49 : CFunc := ⟨8,[.tmp 4],.seq (.region [o 4 (.mv (.v (.bool false)))])
 (.seq (.region [o 7 (.call 100 [.t 0,.t 1]),o 4 (.mv (.t 7))])
 .ret)⟩
def e49 : T Unit := (eN (eN eU .leaf) (eN eU .leaf))
def c50 : CFunc := ⟨19,[.tmp 4,.tmp 5],.seq (.region [o 4 (.mv (k 0)),o 5 (.mv (.v .nilIface))])
 (.seq (.region [o 7 (.call 101 [.t 0])])
 (.seq (.region [o 10 (.nilCheck (.t 0)),o 11 (.fieldAddr 1 (.t 10)),o 12 (.load1 (.t 11)),o 14 (.append 5 1 1 (.t 12) (.t 1)),o 15 (.nilCheck (.t 0)),o 16 (.fieldAddr 1 (.t 15)),⟨none,.store 1 (.t 16) (.t 14),none,0⟩])
 (.seq (.region [o 18 (.lenStr (.t 1)),o 4 (.mv (.t 18)),o 5 (.mv (.v .nilIface))])
 .ret)))⟩
def e50 : T Unit := (eN (eN eU (eN .leaf eU)) (eN (eN eU (eS .leaf eU)) .leaf))
def c51 : CFunc := ⟨14,[.tmp 2],.seq (.region [o 2 (.mv (.v (.str 0 0)))])
 (.seq (.draw [o 3 (.mv (.t 0)),⟨some 4,.nilCheck (.t 3),none,1⟩,⟨some 5,.fieldAddr 1 (.t 4),none,3⟩,⟨some 6,.load1 (.t 5),none,7⟩,⟨some 7,.sliceData (.t 6),none,15⟩,o 8 (.mv (.t 0)),⟨some 9,.nilCheck (.t 8),none,32⟩,⟨some 10,.fieldAddr 1 (.t 9),none,96⟩,⟨some 11,.load1 (.t 10),none,224⟩,⟨some 12,.lenSl (.t 11),none,480⟩,⟨some 13,.unsafeStr 5 (.t 7) (.t 12),none,1023⟩,⟨some 2,.mv (.t 13),none,2047⟩])
 .ret)⟩
def e51 : T Unit := .leaf
def c54 : CFunc := ⟨7,[.tmp 2],.seq (.region [o 2 (.mv (k 0))])
 (.seq (.region [o 4 (.nilCheck (.t 0)),o 5 (.fieldAddr 0 (.t 4)),o 6 (.load1 (.t 5)),o 2 (.mv (.t 6))])
 .ret)⟩
def e54 : T Unit := (eN .leaf (eN .leaf eU))
def c56 : CFunc := ⟨43,[.tmp 6,.tmp 7],.seq (.region [o 6 (.mv (.v .nilptr)),o 7 (.mv (k 0))])
 (.seq (.region [o 12 (.call 105 [.t 0]),o 13 (.extract 0 (.t 12)),o 14 (.extract 1 (.t 12)),o 8 (.mv (.t 13)),o 9 (.mv (.t 14))])
 (.seq (.block 0 (.seq (.region [o 17 (.bin .neq (.t 9) (k 0)),g 19 (.mv (.t 8)) 17 false,g 20 (.mv (.t 0)) 17 false,g 21 (.bin .neq (.t 19) (.t 20)) 17 false,o 22 (.pick (.t 17) (.v (.bool true)) (.t 21)),o 15 (.mv (.t 22))])
 (.cond (.t 15)
 (.seq (.region [o 6 (.mv (.v .nilptr)),o 7 (.mv (k 2))])
 .ret)
 (.seq (.region [o 25 (.bin .lss (.t 1) (k 1)),g 27 (.mv (.t 1)) 25 false,g 28 (.bin .gtr (.t 27) (k 4096)) 25 false,o 29 (.pick (.t 25) (.v (.bool true)) (.t 28)),g 31 (.mv (.t 2)) 29 false,g 32 (.bin .lss (.t 31) (k 1)) 29 false,o 33 (.pick (.t 29) (.v (.bool true)) (.t 32)),g 35 (.mv (.t 2)) 33 false,g 36 (.bin .gtr (.t 35) (k 1048576)) 33 false,o 37 (.pick (.t 33) (.v (.bool true)) (.t 36)),o 23 (.mv (.t 37))])
 (.cond (.t 23)
 (.seq (.region [o 6 (.mv (.v .nilptr)),o 7 (.mv (k 1))])
 .ret)
 .skip)))))
 (.seq (.region [o 41 (.build [.str 0 0,.int .i64 (.ofNat 0),.int .i64 (.ofNat 0),.int .i64 (.ofNat 0),.int .i64 (.ofNat 0),.bool false,.int .i64 (.ofNat 0),.int .i64 (.ofNat 0),.int .i64 (.ofNat 0),.str 0 0,.str 0 0,.bool false,.bool false,.bool false,.bool false,.bool false,.int .i64 (.ofNat 0),.int .i64 (.ofNat 0),.int .i64 (.ofNat 0),.int .i64 (.ofNat 0),.int .i64 (.ofNat 0),.str 0 0,.str 0 0,.str 0 0,.str 0 0,.nilslice,.nilslice,.bool false,.bool false] [(0,1,.t 0),(1,1,.t 1),(2,1,.t 2)]),o 42 (.box 199 (.t 41)),o 6 (.mv (.t 42)),o 7 (.mv (k 0))])
 .ret)))⟩
def e56 : T Unit := (eN (eN (eN (eN eU (eN .leaf eU)) (eS eU (eS .leaf eU))) (eN .leaf (eN (eS .leaf eU) eU))) (eN .leaf (eN eU (eN (eN .leaf eU) .leaf))))
def c57 : CFunc := ⟨36,[.tmp 6,.tmp 7],.seq (.region [o 6 (.mv (.v .nilptr)),o 7 (.mv (k 0))])
 (.seq (.seq (.region [o 9 (.bin .lss (.t 0) (k 1)),g 11 (.mv (.t 0)) 9 false,g 12 (.bin .gtr (.t 11) (k 1048576)) 9 false,o 13 (.pick (.t 9) (.v (.bool true)) (.t 12)),g 15 (.mv (.t 1)) 13 false,g 16 (.bin .lss (.t 15) (k 1)) 13 false,o 17 (.pick (.t 13) (.v (.bool true)) (.t 16)),g 19 (.mv (.t 1)) 17 false,g 20 (.bin .gtr (.t 19) (k 64)) 17 false,o 21 (.pick (.t 17) (.v (.bool true)) (.t 20)),g 23 (.mv (.t 2)) 21 false,g 24 (.bin .lss (.t 23) (k 1)) 21 false,o 25 (.pick (.t 21) (.v (.bool true)) (.t 24)),g 27 (.mv (.t 2)) 25 false,g 28 (.bin .gtr (.t 27) (k 4096)) 25 false,o 29 (.pick (.t 25) (.v (.bool true)) (.t 28))])
 (.cond (.t 29)
 (.seq (.region [o 6 (.mv (.v .nilptr)),o 7 (.mv (k 1))])
 .ret)
 .skip))
 (.seq (.region [o 33 (.mkMap),o 34 (.build [.int .i64 (.ofNat 0),.int .i64 (.ofNat 0),.int .i64 (.ofNat 0),.nilslice,.nilmap] [(0,1,.t 0),(1,1,.t 1),(2,1,.t 2),(4,1,.t 33)]),o 35 (.box 196 (.t 34)),o 6 (.mv (.t 35)),o 7 (.mv (k 0))])
 .ret))⟩
def e57 : T Unit := (eN (eN (eN (eS eU eU) (eS eU eU)) (eN .leaf (eS .leaf (eN .leaf eU)))) (eN .leaf (eN .leaf (eN .leaf (eN .leaf eU)))))
def c58 : CFunc := ⟨25,[.tmp 4,.tmp 5],.seq (.region [o 4 (.mv (.v .nilptr)),o 5 (.mv (k 0))])
 (.seq (.seq (.region [o 7 (.bin .lss (.t 0) (k 0)),g 9 (.mv (.t 0)) 7 false,g 10 (.bin .gtr (.t 9) (k 1099511627776)) 7 false,o 11 (.pick (.t 7) (.v (.bool true)) (.t 10)),g 13 (.mv (.t 1)) 11 false,g 14 (.bin .lss (.t 13) (k 1)) 11 false,o 15 (.pick (.t 11) (.v (.bool true)) (.t 14)),g 17 (.mv (.t 1)) 15 false,g 18 (.bin .gtr (.t 17) (k 1048576)) 15 false,o 19 (.pick (.t 15) (.v (.bool true)) (.t 18))])
 (.cond (.t 19)
 (.seq (.region [o 4 (.mv (.v .nilptr)),o 5 (.mv (k 1))])
 .ret)
 .skip))
 (.seq (.region [o 23 (.build [.int .i64 (.ofNat 0),.int .i64 (.ofNat 0),.int .i64 (.ofNat 0),.int .i64 (.ofNat 0),.int .i64 (.ofNat 0)] [(0,1,.t 0),(1,1,.t 0),(2,1,.t 1)]),o 24 (.box 192 (.t 23)),o 4 (.mv (.t 24)),o 5 (.mv (k 0))])
 .ret))⟩
def e58 : T Unit := (eN (eN (eS (eN .leaf eU) .leaf) (eN (eS .leaf eU) (eS .leaf eU))) (eN (eN (eN .leaf eU) .leaf) .leaf))
def c59 : CFunc := ⟨38,[.tmp 2],.seq (.region [o 1 (.box 29 (.t 0)),o 2 (.mv (k 0))])
 (.seq (.seq (.region [o 3 (.fieldAddr 0 (.t 1)),o 4 (.load1 (.t 3)),o 5 (.bin .lss (.t 4) (k 1)),g 7 (.fieldAddr 1 (.t 1)) 5 false,g 8 (.load1 (.t 7)) 5 false,g 9 (.fieldAddr 0 (.t 1)) 5 false,g 10 (.load1 (.t 9)) 5 false,g 11 (.bin .lss (.t 8) (.t 10)) 5 false,o 12 (.pick (.t 5) (.v (.bool true)) (.t 11)),g 14 (.fieldAddr 1 (.t 1)) 12 false,g 15 (.load1 (.t 14)) 12 false,g 16 (.bin .gtr (.t 15) (k 1048576)) 12 false,o 17 (.pick (.t 12) (.v (.bool true)) (.t 16)),g 19 (.fieldAddr 2 (.t 1)) 17 false,g 20 (.load1 (.t 19)) 17 false,g 21 (.bin .lss (.t 20) (k 1)) 17 false,o 22 (.pick (.t 17) (.v (.bool true)) (.t 21)),g 24 (.fieldAddr 2 (.t 1)) 22 false,g 25 (.load1 (.t 24)) 22 false,g 26 (.bin .gtr (.t 25) (k 1073741824)) 22 false,o 27 (.pick (.t 22) (.v (.bool true)) (.t 26)),g 29 (.fieldAddr 3 (.t 1)) 27 false,g 30 (.load1 (.t 29)) 27 false,g 31 (.bin .lss (.t 30) (k 1)) 27 false,o 32 (.pick (.t 27) (.v (.bool true)) (.t 31)),g 34 (.fieldAddr 3 (.t 1)) 32 false,g 35 (.load1 (.t 34)) 32 false,g 36 (.bin .gtr (.t 35) (k 1073741824)) 32 false,o 37 (.pick (.t 32) (.v (.bool true)) (.t 36))])
 (.cond (.t 37)
 (.seq (.region [o 2 (.mv (k 1))])
 .ret)
 .skip))
 (.seq (.region [o 2 (.mv (k 0))])
 .ret))⟩
def e59 : T Unit := (eN (eN (eS .leaf (eN .leaf eU)) (eN (eN eU .leaf) .leaf)) (eN (eN eU (eN .leaf (eN .leaf eU))) (eN .leaf (eN eU .leaf))))
def c60 : CFunc := ⟨13,[.tmp 2,.tmp 3],.seq (.region [o 2 (.mv (.v .nilptr)),o 3 (.mv (k 0))])
 (.seq (.seq (.region [o 5 (.bin .lss (.t 0) (k 2)),g 7 (.mv (.t 0)) 5 false,g 8 (.bin .gtr (.t 7) (k 65536)) 5 false,o 9 (.pick (.t 5) (.v (.bool true)) (.t 8))])
 (.cond (.t 9)
 (.seq (.region [o 2 (.mv (.v .nilptr)),o 3 (.mv (k 1))])
 .ret)
 .skip))
 (.seq (.region [o 11 (.build [.int .i64 (.ofNat 0),.int .i64 (.ofNat 0),.nilslice,.int .i64 (.ofNat 0),.bool false] [(0,1,.t 0)]),o 12 (.box 201 (.t 11)),o 2 (.mv (.t 12)),o 3 (.mv (k 0))])
 .ret))⟩
def e60 : T Unit := (eN (eN (eS .leaf eU) eU) .leaf)
def c61 : CFunc := ⟨19,[],.seq (.region [o 5 (.box 39 (.t 2))])
 (.seq (.region [o 9 (.loadN 5 (.t 5)),o 10 (.call 106 [.t 9]),o 11 (.extract 0 (.t 10)),o 12 (.extract 1 (.t 10)),o 6 (.mv (.t 11))])
 (.region [o 16 (.build [.str 0 0,.int .i64 (.ofNat 0),.int .i64 (.ofNat 0),.int .i64 (.ofNat 0),.str 0 0,.nilslice] [(0,1,.v (.str 3 7954803)),(1,1,.t 1),(5,1,.t 6)]),o 17 (.buildSlice 46 6 1 [.str 0 0,.int .i64 (.ofNat 0),.int .i64 (.ofNat 0),.int .i64 (.ofNat 0),.str 0 0,.nilslice] [(0,6,.t 16)]),o 18 (.call 45 [.t 0,.t 17])]))⟩
def e61 : T Unit := (eN (eN (eN eU .leaf) (eN .leaf eU)) (eN (eN eU .leaf) (eN .leaf (eS .leaf eU))))
def c62 : CFunc := ⟨9,[.cell 2 (some 5)],.seq (.region [o 2 (.newc 39 [.int .i64 (.ofNat 0),.int .i64 (.ofNat 0),.int .i64 (.ofNat 0),.int .i64 (.ofNat 0),.nilslice])])
 (.seq (.region [o 4 (.nilCheck (.t 0)),o 5 (.fieldAddr 0 (.t 4)),o 6 (.load1 (.t 5)),o 7 (.buildSlice 9 1 1 [.str 0 0] [(0,1,.t 6)]),o 8 (.call 107 [k 220,.v (.str 0 0),.t 7]),⟨none,.store 5 (.t 2) (.t 8),none,0⟩])
 .ret)⟩
def e62 : T Unit := (eN .leaf (eN .leaf eU))
def c63 : CFunc := ⟨31,[.tmp 4],.seq (.region [o 2 (.box 131 (.t 0)),o 4 (.mv (.v .nilslice))])
 (.seq (.region [o 5 (.newc 138 [.nilslice])])
 (.seq (.region [o 11 (.mkFunc 108 [] [.t 2,.t 5]),o 6 (.mv (.t 11))])
 (.seq (.seq (.region [o 12 (.mv (.t 1)),o 13 (.lenSl (.t 12)),o 14 (.mv (k 0))])
 (.block 0 (.loop (.seq (.region [o 15 (.bin .lss (.t 14) (.t 13))])
 (.seq (.cond (.t 15)
 .skip
 (.exit 0))
 (.seq (.block 1 (.seq (.region [o 16 (.idxAddrSl 1 (.t 12) (.t 14)),o 17 (.load1 (.t 16)),o 8 (.mv (.t 17))])
 (.seq (.region [o 19 (.bytesOfStr 5 (.t 8)),o 20 (.lenSl (.t 19)),o 21 (.mv (k 0))])
 (.block 2 (.loop (.seq (.region [o 22 (.bin .lss (.t 21) (.t 20))])
 (.seq (.cond (.t 22)
 .skip
 (.exit 2))
 (.seq (.block 3 (.seq (.region [o 23 (.idxAddrSl 1 (.t 19) (.t 21)),o 24 (.load1 (.t 23)),o 10 (.mv (.t 24))])
 (.region [o 27 (.callV (.t 6) [.t 10])])))
 (.region [o 28 (.bin .add (.t 21) (k 1)),o 21 (.mv (.t 28))])))))))))
 (.region [o 29 (.bin .add (.t 14) (k 1)),o 14 (.mv (.t 29))])))))))
 (.seq (.region [o 30 (.load1 (.t 5)),o 4 (.mv (.t 30))])
 .ret))))⟩
def e63 : T Unit := (eN (eN (eN .leaf (eN eU eU)) .leaf) (eN (eN .leaf (eN eU .leaf)) .leaf))
def c64 : CFunc := ⟨114,[.cell 8 (some 5),.tmp 9],.seq (.region [o 5 (.box 141 (.t 1)),o 8 (.newc 39 [.int .i64 (.ofNat 0),.int .i64 (.ofNat 0),.int .i64 (.ofNat 0),.int .i64 (.ofNat 0),.nilslice]),o 9 (.mv (.v (.bool false)))])
 (.seq (.region [o 17 (.max [.t 2,k 0]),o 18 (.min [.t 17,k 1099511627776]),o 20 (.nilCheck (.t 0)),o 21 (.fieldAddr 4 (.t 20)),⟨none,.store 1 (.t 21) (.t 18),none,0⟩,o 22 (.nilCheck (.t 0)),o 23 (.fieldAddr 5 (.t 22)),⟨none,.store 1 (.t 23) (.t 3),none,0⟩])
 (.seq (.seq (.region [o 25 (.nilCheck (.t 0)),o 26 (.fieldAddr 28 (.t 25)),o 27 (.load1 (.t 26))])
 (.cond (.t 27)
 (.region [o 29 (.call 110 [.t 0])])
 .skip))
 (.seq (.block 0 (.seq (.region [o 32 (.nilCheck (.t 0)),o 33 (.fieldAddr 3 (.t 32)),o 34 (.load1 (.t 33)),o 35 (.bin .eql (.t 34) (k 5)),o 30 (.mv (.t 35))])
 (.cond (.t 30)
 (.seq (.region [o 36 (.build [.int .i64 (.ofNat 0),.int .i64 (.ofNat 0),.int .i64 (.ofNat 0),.int .i64 (.ofNat 0),.nilslice] []),⟨none,.store 5 (.t 8) (.t 36),none,0⟩,o 9 (.mv (.v (.bool false)))])
 .ret)
 (.seq (.region [o 39 (.nilCheck (.t 0)),o 40 (.fieldAddr 3 (.t 39)),o 41 (.load1 (.t 40)),o 42 (.bin .eql (.t 41) (k 4)),o 37 (.mv (.t 42))])
 (.cond (.t 37)
 (.seq (.region [o 44 (.loadN 2 (.t 5)),o 45 (.call 111 [.t 0,.t 44]),o 46 (.extract 0 (.t 45)),o 47 (.extract 1 (.t 45)),⟨none,.store 5 (.t 8) (.t 46),none,0⟩,o 9 (.mv (.t 47))])
 .ret)
 (.seq (.region [o 49 (.fieldAddr 1 (.t 5)),o 50 (.load1 (.t 49)),o 51 (.bin .neq (.t 50) (k 0)),g 53 (.fieldAddr 0 (.t 5)) 51 false,g 54 (.load1 (.t 53)) 51 false,g 55 (.lenStr (.t 54)) 51 false,g 56 (.bin .gtr (.t 55) (k 510)) 51 false,o 57 (.pick (.t 51) (.v (.bool true)) (.t 56)),o 48 (.mv (.t 57))])
 (.cond (.t 48)
 (.seq (.region [o 58 (.buildSlice 9 1 1 [.str 0 0] [(0,1,.v (.str 4 1701734764))]),o 59 (.call 107 [k 500,.v (.str 5 215523601973),.t 58]),⟨none,.store 5 (.t 8) (.t 59),none,0⟩,o 9 (.mv (.v (.bool true)))])
 .ret)
 .skip)))))))
 (.seq (.region [o 60 (.mkMap),⟨none,.mapUpd true (.t 60) (.v (.str 4 1330398536)) (.v (.func (.func 112) [] [])),none,0⟩,⟨none,.mapUpd true (.t 60) (.v (.str 4 1330399301)) (.v (.func (.func 112) [] [])),none,0⟩,⟨none,.mapUpd true (.t 60) (.v (.str 4 1279869261)) (.v (.func (.func 113) [] [])),none,0⟩,⟨none,.mapUpd true (.t 60) (.v (.str 4 1414546258)) (.v (.func (.func 114) [] [])),none,0⟩,⟨none,.mapUpd true (.t 60) (.v (.str 4 1096040772)) (.v (.func (.func 115) [] [])),none,0⟩,⟨none,.mapUpd true (.t 60) (.v (.str 4 1413829458)) (.v (.func (.func 116) [] [])),none,0⟩,⟨none,.mapUpd true (.t 60) (.v (.str 4 1414092113)) (.v (.func (.func 117) [] [])),none,0⟩,⟨none,.mapUpd true (.t 60) (.v (.str 4 1347374926)) (.v (.func (.func 118) [] [])),none,0⟩,⟨none,.mapUpd true (.t 60) (.v (.str 4 1497780822)) (.v (.func (.func 119) [] [])),none,0⟩,⟨none,.mapUpd true (.t 60) (.v (.str 4 1347175752)) (.v (.func (.func 120) [] [])),none,0⟩,o 10 (.mv (.t 60))])
 (.seq (.region [o 62 (.fieldAddr 0 (.t 5)),o 63 (.load1 (.t 62)),o 64 (.call 122 [.t 63,.v (.str 1 32)]),o 65 (.call 121 [.t 64]),o 11 (.mv (.t 65))])
 (.seq (.region [o 67 (.fieldAddr 0 (.t 5)),o 68 (.load1 (.t 67)),o 69 (.call 123 [.t 68]),o 70 (.extract 0 (.t 69)),o 71 (.extract 1 (.t 69)),o 12 (.newc 214 [.str 0 0,.str 0 0,.str 0 0,.str 0 0,.bool false,.bool false,.bool false,.bool false,.bool false,.int .i64 (.ofNat 0),.int .i64 (.ofNat 0),.int .i64 (.ofNat 0),.int .i64 (.ofNat 0),.int .i64 (.ofNat 0),.str 0 0,.str 0 0,.str 0 0,.str 0 0,.str 0 0,.str 0 0,.str 0 0]),⟨none,.store 21 (.t 12) (.t 70),none,0⟩,o 13 (.mv (.t 71))])
 (.seq (.block 1 (.seq (.region [o 73 (.call 125 []),o 75 (.call 124 [.t 73,.t 11]),o 76 (.un .not (.t 75)),o 72 (.mv (.t 76))])
 (.cond (.t 72)
 (.seq (.region [o 77 (.buildSlice 9 1 1 [.str 0 0] [(0,1,.v (.str 4 1651664246))]),o 78 (.call 107 [k 500,.v (.str 5 211228634677),.t 77]),⟨none,.store 5 (.t 8) (.t 78),none,0⟩,o 9 (.mv (.v (.bool true)))])
 .ret)
 (.seq (.region [o 82 (.call 126 [.t 0,.t 11]),o 83 (.un .not (.t 82)),o 79 (.mv (.t 83))])
 (.cond (.t 79)
 (.seq (.region [o 84 (.buildSlice 9 1 1 [.str 0 0] [(0,1,.v (.str 5 491327353455))]),o 85 (.call 107 [k 503,.v (.str 5 211228634677),.t 84]),⟨none,.store 5 (.t 8) (.t 85),none,0⟩,o 9 (.mv (.v (.bool true)))])
 .ret)
 (.seq (.region [o 88 (.bin .eql (.t 13) (k 10)),o 86 (.mv (.t 88))])
 (.cond (.t 86)
 (.seq (.region [o 89 (.buildSlice 9 1 1 [.str 0 0] [(0,1,.v (.str 3 7955819))]),o 90 (.call 107 [k 555,.v (.str 5 224113536565),.t 89]),⟨none,.store 5 (.t 8) (.t 90),none,0⟩,o 9 (.mv (.v (.bool true)))])
 .ret)
 (.seq (.region [o 93 (.bin .neq (.t 13) (k 0)),o 91 (.mv (.t 93))])
 (.cond (.t 91)
 (.seq (.region [o 94 (.buildSlice 9 1 1 [.str 0 0] [(0,1,.v (.str 4 1836216166))]),o 95 (.call 107 [k 501,.v (.str 5 224113536565),.t 94]),⟨none,.store 5 (.t 8) (.t 95),none,0⟩,o 9 (.mv (.v (.bool true)))])
 .ret)
 (.seq (.region [o 98 (.bin .eql (.t 11) (.v (.str 4 1096040772))),g 100 (.mv (.t 0)) 98 true,g 101 (.nilCheck (.t 100)) 98 true,g 102 (.fieldAddr 3 (.t 101)) 98 true,g 103 (.load1 (.t 102)) 98 true,g 104 (.bin .neq (.t 103) (k 3)) 98 true,o 105 (.pick (.t 98) (.t 104) (.v (.bool false))),o 96 (.mv (.t 105))])
 (.cond (.t 96)
 (.seq (.region [o 106 (.buildSlice 9 1 1 [.str 0 0] [(0,1,.v (.str 5 491327353455))]),o 107 (.call 107 [k 503,.v (.str 5 211228634677),.t 106]),⟨none,.store 5 (.t 8) (.t 107),none,0⟩,o 9 (.mv (.v (.bool true)))])
 .ret)
 .skip)))))))))))
 (.seq (.region [o 110 (.lookup true .nilFunc false (.t 10) (.t 11)),o 112 (.loadN 21 (.t 12)),o 113 (.callV (.t 110) [.t 0,.t 112]),⟨none,.store 5 (.t 8) (.t 113),none,0⟩,o 9 (.mv (.v (.bool true)))])
 .ret))))))))⟩
def e64 : T Unit := (eN (eN (eN (eS .leaf (eN .leaf eU)) (eN (eN .leaf (eN .leaf eU)) (eN .leaf (eN .leaf eU)))) (eN (eN (eS (eN .leaf eU) (eN eU .leaf)) (eN eU .leaf)) (eN eU (eS (eN .leaf eU) .leaf)))) (eN (eN (eN (eN eU (eN eU .leaf)) .leaf) (eN .leaf (eN (eN .leaf eU) (eN eU .leaf)))) (eN (eN (eN .leaf eU) (eS .leaf (eN eU .leaf))) (eN (eN (eN .leaf eU) .leaf) (eS (eN eU .leaf) eU)))))
def c65 : CFunc := ⟨18,[.cell 2 (some 21),.tmp 3],.seq (.region [o 2 (.newc 69 [.int .i64 (.ofNat 0),.int .i64 (.ofNat 0),.int .i64 (.ofNat 0),.str 0 0,.str 0 0,.bool false,.bool false,.bool false,.bool false,.bool false,.int .i64 (.ofNat 0),.int .i64 (.ofNat 0),.int .i64 (.ofNat 0),.int .i64 (.ofNat 0),.int .i64 (.ofNat 0),.str 0 0,.str 0 0,.str 0 0,.str 0 0,.nilslice,.nilslice]),o 3 (.mv (.v (.bool false)))])
 (.seq (.seq (.region [o 6 (.nilCheck (.t 0)),o 7 (.fieldAddr 28 (.t 6)),o 8 (.load1 (.t 7)),o 9 (.un .not (.t 8))])
 (.cond (.t 9)
 (.seq (.region [o 10 (.build [.int .i64 (.ofNat 0),.int .i64 (.ofNat 0),.int .i64 (.ofNat 0),.str 0 0,.str 0 0,.bool false,.bool false,.bool false,.bool false,.bool false,.int .i64 (.ofNat 0),.int .i64 (.ofNat 0),.int .i64 (.ofNat 0),.int .i64 (.ofNat 0),.int .i64 (.ofNat 0),.str 0 0,.str 0 0,.str 0 0,.str 0 0,.nilslice,.nilslice] []),⟨none,.store 21 (.t 2) (.t 10),none,0⟩,o 3 (.mv (.v (.bool false)))])
 .ret)
 .skip))
 (.seq (.region [o 12 (.nilCheck (.t 0)),o 13 (.fieldAddr 6 (.t 12)),o 14 (.loadN 21 (.t 13)),o 4 (.newc 69 [.int .i64 (.ofNat 0),.int .i64 (.ofNat 0),.int .i64 (.ofNat 0),.str 0 0,.str 0 0,.bool false,.bool false,.bool false,.bool false,.bool false,.int .i64 (.ofNat 0),.int .i64 (.ofNat 0),.int .i64 (.ofNat 0),.int .i64 (.ofNat 0),.int .i64 (.ofNat 0),.str 0 0,.str 0 0,.str 0 0,.str 0 0,.nilslice,.nilslice]),⟨none,.store 21 (.t 4) (.t 14),none,0⟩])
 (.seq (.region [o 16 (.call 110 [.t 0])])
 (.seq (.region [o 17 (.loadN 21 (.t 4)),⟨none,.store 21 (.t 2) (.t 17),none,0⟩,o 3 (.mv (.v (.bool true)))])
 .ret))))⟩
def e65 : T Unit := (eN .leaf (eN eU (eN eU (eN .leaf eU))))
def c66 : CFunc := ⟨38,[],.seq (.region [o 5 (.box 69 (.t 2))])
 (.seq (.region [o 9 (.nilCheck (.t 0)),o 10 (.fieldAddr 11 (.t 9)),o 11 (.load1 (.t 10)),o 12 (.call 127 [.t 11]),o 13 (.fieldAddr 0 (.t 5)),⟨none,.store 1 (.t 13) (.t 12),none,0⟩])
 (.seq (.seq (.draw [o 14 (.mv (.t 0)),⟨some 15,.nilCheck (.t 14),none,1⟩,⟨some 16,.fieldAddr 11 (.t 15),none,3⟩,⟨some 17,.load1 (.t 16),none,7⟩,o 18 (.loadN 21 (.t 5)),⟨some 19,.call 128 [.t 17,.t 18],none,31⟩,⟨some 20,.bin .neq (.t 19) (k 0),none,63⟩])
 (.cond (.t 20)
 (.seq (.region [o 22 (.buildSlice 9 1 1 [.str 0 0] [(0,1,.v (.str 4 1836019570))]),o 23 (.call 129 [k 452,.v (.str 5 211228503604),.t 22]),o 24 (.extract 0 (.t 23)),o 25 (.extract 1 (.t 23)),o 6 (.newc 39 [.int .i64 (.ofNat 0),.int .i64 (.ofNat 0),.int .i64 (.ofNat 0),.int .i64 (.ofNat 0),.nilslice]),⟨none,.store 5 (.t 6) (.t 24),none,0⟩])
 (.seq (.region [o 28 (.loadN 5 (.t 6)),o 29 (.call 61 [.t 0,.t 1,.t 28])])
 .ret))
 .skip))
 (.seq (.region [o 31 (.fieldAddr 0 (.t 5)),o 32 (.load1 (.t 31)),o 33 (.call 93 [.t 0,.t 32])])
 (.region [o 36 (.call 130 []),o 37 (.call 61 [.t 0,.t 1,.t 36])]))))⟩
def e66 : T Unit := (eN (eN (eN (eN eU .leaf) (eN eU (eN .leaf eU))) (eN .leaf eU)) (eN (eN (eN .leaf eU) .leaf) (eN (eN eU (eN .leaf eU)) eU)))
def c67 : CFunc := ⟨8,[.tmp 2],.seq (.region [o 2 (.mv (.v (.bool false)))])
 (.seq (.region [o 4 (.nilCheck (.t 0)),o 5 (.fieldAddr 3 (.t 4)),o 6 (.load1 (.t 5)),o 7 (.bin .eql (.t 6) (k 5)),o 2 (.mv (.t 7))])
 .ret)⟩
def e67 : T Unit := (eN .leaf (eN .leaf eU))
def c69 : CFunc := ⟨17,[.tmp 2],.seq (.region [o 2 (.mv (.v (.bool false)))])
 (.seq (.draw [o 3 (.mv (.t 0)),⟨some 4,.nilCheck (.t 3),none,1⟩,⟨some 5,.fieldAddr 0 (.t 4),none,3⟩,⟨some 6,.load1 (.t 5),none,7⟩,o 7 (.mv (.t 0)),⟨some 8,.nilCheck (.t 7),none,16⟩,⟨some 9,.fieldAddr 1 (.t 8),none,48⟩,⟨some 10,.load1 (.t 9),none,112⟩,⟨some 11,.bin .sub (.t 6) (.t 10),none,255⟩,o 12 (.mv (.t 0)),⟨some 13,.nilCheck (.t 12),none,512⟩,⟨some 14,.fieldAddr 2 (.t 13),none,1536⟩,⟨some 15,.load1 (.t 14),none,3584⟩,⟨some 16,.bin .geq (.t 11) (.t 15),none,8191⟩,⟨some 2,.mv (.t 16),none,16383⟩])
 .ret)⟩
def e69 : T Unit := .leaf
def c70 : CFunc := ⟨35,[.tmp 2,.tmp 3],.seq (.region [o 2 (.mv (.v (.str 0 0))),o 3 (.mv (k 0))])
 (.seq (.region [o 4 (.newc 111 [.nilptr,.nilslice])])
 (.seq (.seq (.region [o 8 (.mv (.t 0)),o 9 (.lenSl (.t 8)),o 10 (.mv (k 0))])
 (.block 0 (.loop (.seq (.region [o 11 (.bin .lss (.t 10) (.t 9))])
 (.seq (.cond (.t 11)
 .skip
 (.exit 0))
 (.seq (.block 1 (.seq (.region [o 12 (.idxAddrSl 1 (.t 8) (.t 10)),o 13 (.load1 (.t 12)),o 6 (.mv (.t 13))])
 (.seq (.seq (.region [o 15 (.lenStr (.t 6)),o 16 (.bin .gtr (.t 15) (k 65535))])
 (.cond (.t 16)
 (.seq (.region [o 2 (.mv (.v (.str 0 0))),o 3 (.mv (k 3))])
 .ret)
 .skip))
 (.seq (.region [o 18 (.lenStr (.t 6)),o 19 (.convInt .u16 (.t 18)),o 20 (.call 132 [.t 19,k 2]),o 7 (.mv (.t 20))])
 (.region [o 23 (.call 134 [.t 7]),o 24 (.call 133 [.t 23,k 4]),o 25 (.bin .add (.t 7) (.t 24)),o 27 (.bin .add (.t 25) (.t 6)),o 29 (.call 134 [.t 6]),o 30 (.call 133 [.t 29,k 4]),o 31 (.bin .add (.t 27) (.t 30)),o 32 (.call 50 [.t 4,.t 31])])))))
 (.region [o 33 (.bin .add (.t 10) (k 1)),o 10 (.mv (.t 33))])))))))
 (.seq (.region [o 34 (.call 51 [.t 4]),o 2 (.mv (.t 34)),o 3 (.mv (k 0))])
 .ret)))⟩
def e70 : T Unit := (eN (eN (eN (eS .leaf eU) (eN eU .leaf)) (eN (eN eU .leaf) .leaf)) (eN (eN (eN .leaf eU) (eN .leaf eU)) .leaf))
def c71 : CFunc := ⟨5,[.tmp 2],.seq (.region [o 2 (.mv (.v (.str 0 0)))])
 (.seq (.region [o 4 (.call 135 [.t 0]),o 2 (.mv (.t 4))])
 .ret)⟩
def e71 : T Unit := (eN .leaf (eN .leaf eU))
def c72 : CFunc := ⟨51,[.tmp 6],.seq (.region [o 3 (.box 24 (.t 0)),o 4 (.box 9 (.t 1)),o 5 (.box 9 (.t 2)),o 6 (.mv (k 0))])
 (.seq (.seq (.region [o 10 (.load1 (.t 3)),o 11 (.load1 (.t 4)),o 12 (.buildSlice 9 1 1 [.str 0 0] [(0,1,.t 11)]),o 13 (.call 136 [.t 10,.t 12]),o 7 (.mv (.t 13))])
 (.seq (.region [o 15 (.bin .neq (.t 7) (k 0))])
 (.cond (.t 15)
 (.seq (.region [o 6 (.mv (.t 7))])
 .ret)
 .skip)))
 (.seq (.draw [o 18 (.load1 (.t 3)),⟨some 19,.nilCheck (.t 18),none,1⟩,⟨some 20,.fieldAddr 1 (.t 19),none,3⟩,⟨some 21,.load1 (.t 20),none,7⟩,o 22 (.load1 (.t 4)),⟨some 23,.lookup true (.agg [.str 0 0,.int .i64 (.ofNat 0)]) true (.t 21) (.t 22),none,31⟩,⟨some 17,.mv (.t 23),none,63⟩,⟨some 24,.extract 0 (.t 17),none,127⟩,⟨some 25,.extract 1 (.t 17),none,127⟩,o 8 (.newc 106 [.str 0 0,.int .i64 (.ofNat 0)]),⟨none,.store 2 (.t 8) (.t 24),none,767⟩,⟨some 9,.mv (.t 25),none,2047⟩])
 (.seq (.seq (.draw [o 26 (.load1 (.t 5)),⟨some 27,.lenStr (.t 26),none,1⟩,o 28 (.load1 (.t 3)),⟨some 29,.nilCheck (.t 28),none,4⟩,⟨some 30,.fieldAddr 0 (.t 29),none,12⟩,⟨some 31,.load1 (.t 30),none,28⟩,o 32 (.load1 (.t 3)),⟨some 33,.call 22 [.t 32],none,64⟩,⟨some 34,.bin .sub (.t 31) (.t 33),none,252⟩,⟨some 35,.bin .gtr (.t 27) (.t 34),none,511⟩,⟨some 36,.mv (.t 35),none,1023⟩,⟨some 37,.mv (.t 9),some (.t 36,false),2047⟩,⟨some 38,.un .not (.t 37),some (.t 36,false),4095⟩,⟨some 39,.mv (.t 38),some (.t 36,false),8191⟩,⟨some 40,.load1 (.t 3),some (.t 39,true),16383⟩,⟨some 41,.nilCheck (.t 40),some (.t 39,true),32767⟩,⟨some 42,.fieldAddr 1 (.t 41),some (.t 39,true),65535⟩,⟨some 43,.load1 (.t 42),some (.t 39,true),131071⟩,⟨some 44,.lenMap (.t 43),some (.t 39,true),262143⟩,⟨some 45,.bin .geq (.t 44) (k 128),some (.t 39,true),524287⟩,⟨some 46,.pick (.t 39) (.t 45) (.v (.bool false)),some (.t 36,false),1048575⟩,⟨some 47,.pick (.t 36) (.v (.bool true)) (.t 46),none,2097151⟩])
 (.cond (.t 47)
 (.seq (.region [o 6 (.mv (k 6))])
 .ret)
 .skip))
 (.seq (.region [o 48 (.load1 (.t 3)),o 49 (.mkFunc 138 [] [.t 8,.t 5,.t 3,.t 4]),o 50 (.call 137 [.t 48,.v (.bool true),.t 49]),o 6 (.mv (.t 50))])
 .ret))))⟩
def e72 : T Unit := (eN (eN (eN eU .leaf) (eN .leaf (eN .leaf eU))) .leaf)
def c73 : CFunc := ⟨19,[.tmp 4],.seq (.region [o 2 (.box 24 (.t 0)),o 3 (.box 9 (.t 1)),o 4 (.mv (k 0))])
 (.seq (.region [o 8 (.load1 (.t 2)),o 9 (.load1 (.t 3)),o 10 (.call 139 [.t 8,.t 9,.v .nilslice]),o 11 (.extract 0 (.t 10)),o 12 (.extract 1 (.t 10)),o 5 (.newc 106 [.str 0 0,.int .i64 (.ofNat 0)]),⟨none,.store 2 (.t 5) (.t 11),none,0⟩,o 6 (.mv (.t 12))])
 (.seq (.seq (.region [o 14 (.bin .neq (.t 6) (k 0))])
 (.cond (.t 14)
 (.seq (.region [o 4 (.mv (.t 6))])
 .ret)
 .skip))
 (.seq (.region [o 16 (.load1 (.t 2)),o 17 (.mkFunc 140 [] [.t 5,.t 2,.t 3]),o 18 (.call 137 [.t 16,.v (.bool false),.t 17]),o 4 (.mv (.t 18))])
 .ret)))⟩
def e73 : T Unit := (eN .leaf (eN (eN eU .leaf) (eN .leaf (eS .leaf eU))))
def c74 : CFunc := ⟨23,[.tmp 6],.seq (.region [o 3 (.box 24 (.t 0)),o 4 (.box 9 (.t 1)),o 5 (.box 9 (.t 2)),o 6 (.mv (k 0))])
 (.seq (.region [o 10 (.load1 (.t 3)),o 11 (.load1 (.t 4)),o 12 (.load1 (.t 5)),o 13 (.buildSlice 9 1 1 [.str 0 0] [(0,1,.t 12)]),o 14 (.call 139 [.t 10,.t 11,.t 13]),o 15 (.extract 0 (.t 14)),o 16 (.extract 1 (.t 14)),o 7 (.newc 106 [.str 0 0,.int .i64 (.ofNat 0)]),⟨none,.store 2 (.t 7) (.t 15),none,0⟩,o 8 (.mv (.t 16))])
 (.seq (.seq (.region [o 18 (.bin .neq (.t 8) (k 0))])
 (.cond (.t 18)
 (.seq (.region [o 6 (.mv (.t 8))])
 .ret)
 .skip))
 (.seq (.region [o 20 (.load1 (.t 3)),o 21 (.mkFunc 141 [] [.t 3,.t 4,.t 7,.t 5]),o 22 (.call 137 [.t 20,.v (.bool false),.t 21]),o 6 (.mv (.t 22))])
 .ret)))⟩
def e74 : T Unit := (eN .leaf (eN (eN .leaf (eS .leaf eU)) (eN (eN .leaf eU) .leaf)))
def c76 : CFunc := ⟨9,[.tmp 4],.seq (.region [o 4 (.mv (k 0))])
 (.seq (.region [o 6 (.bin .mul (.t 0) (k 8)),o 8 (.bin .add (.t 6) (.t 1)),o 4 (.mv (.t 8))])
 .ret)⟩
def e76 : T Unit := (eN .leaf (eN eU (eN .leaf eU)))
def c85 : CFunc := ⟨80,[.tmp 6,.tmp 7,.tmp 8],.seq (.region [o 6 (.mv (.v .nilslice)),o 7 (.mv (k 0)),o 8 (.mv (k 0))])
 (.seq (.seq (.region [o 16 (.nilCheck (.t 0)),o 17 (.fieldAddr 0 (.t 16)),o 18 (.load1 (.t 17)),o 19 (.bin .lss (.t 1) (.t 18)),g 21 (.mv (.t 1)) 19 false,g 22 (.bin .gtr (.t 21) (k 1099511627776)) 19 false,o 23 (.pick (.t 19) (.v (.bool true)) (.t 22)),g 25 (.mv (.t 2)) 23 false,g 26 (.bin .lss (.t 25) (k 1)) 23 false,o 27 (.pick (.t 23) (.v (.bool true)) (.t 26)),g 29 (.mv (.t 2)) 27 false,g 30 (.bin .gtr (.t 29) (k 1048576)) 27 false,o 31 (.pick (.t 27) (.v (.bool true)) (.t 30))])
 (.cond (.t 31)
 (.seq (.region [o 6 (.mv (.v .nilslice)),o 7 (.mv (k 0)),o 8 (.mv (k 1))])
 .ret)
 .skip))
 (.seq (.block 0 (.loop (.seq (.seq (.region [o 33 (.lenSl (.t 6)),o 35 (.bin .lss (.t 33) (.t 2))])
 (.cond (.t 35)
 .skip
 (.exit 0)))
 (.block 1 (.seq (.region [o 38 (.call 156 [.t 0]),o 39 (.extract 0 (.t 38)),o 40 (.extract 1 (.t 38)),o 9 (.mv (.t 39)),o 10 (.mv (.t 40))])
 (.seq (.seq (.region [o 42 (.un .not (.t 10)),g 44 (.mv (.t 9)) 42 false,g 45 (.mv (.t 1)) 42 false,g 46 (.bin .gtr (.t 44) (.t 45)) 42 false,o 47 (.pick (.t 42) (.v (.bool true)) (.t 46))])
 (.cond (.t 47)
 (.seq (.region [o 50 (.call 157 [.t 0,.t 1])])
 (.exit 0))
 .skip))
 (.seq (.region [o 53 (.call 157 [.t 0,.t 9])])
 (.seq (.region [o 56 (.bin .and (.t 9) (k 63)),o 57 (.build [.int .i64 (.ofNat 0),.int .i64 (.ofNat 0)] [(0,1,k 0),(1,1,.t 56)]),o 58 (.call 158 [.t 0,.t 57]),o 11 (.mv (.t 58))])
 (.seq (.region [o 60 (.call 159 [.t 11]),o 61 (.call 52 [.t 60]),o 62 (.lenSl (.t 61)),o 63 (.mv (k 0))])
 (.block 2 (.loop (.seq (.region [o 64 (.bin .lss (.t 63) (.t 62))])
 (.seq (.cond (.t 64)
 .skip
 (.exit 2))
 (.seq (.block 3 (.seq (.region [o 65 (.idxAddrSl 1 (.t 61) (.t 63)),o 66 (.load1 (.t 65)),o 13 (.mv (.t 66))])
 (.seq (.region [o 69 (.call 160 [.t 0,.t 13])])
 (.region [o 72 (.buildSlice 3 1 1 [.int .i64 (.ofNat 0)] [(0,1,.t 13)]),o 73 (.append 3 1 8 (.t 6) (.t 72)),o 6 (.mv (.t 73))]))))
 (.region [o 74 (.bin .add (.t 63) (k 1)),o 63 (.mv (.t 74))])))))))))))))))
 (.seq (.draw [o 75 (.mv (.t 6)),o 76 (.mv (.t 0)),⟨some 77,.nilCheck (.t 76),none,2⟩,⟨some 78,.fieldAddr 0 (.t 77),none,6⟩,⟨some 79,.load1 (.t 78),none,14⟩,⟨some 6,.mv (.t 75),none,1⟩,⟨some 7,.mv (.t 79),none,63⟩,⟨some 8,.mv (k 0),none,127⟩])
 .ret)))⟩
def e85 : T Unit := (eN (eN (eN (eS .leaf (eN eU (eN .leaf eU))) (eN .leaf (eN .leaf eU))) (eN (eN eU (eS eU (eS .leaf eU))) (eN eU (eN eU eU)))) (eN (eN (eN .leaf (eN .leaf eU)) (eN (eN .leaf eU) (eN eU .leaf))) (eN (eN (eN eU eU) (eN eU (eN .leaf eU))) (eN (eN eU (eN .leaf eU)) eU))))
def c86 : CFunc := ⟨120,[],.seq (.region [o 15 (.nilCheck (.t 0)),o 16 (.fieldAddr 11 (.t 15)),o 17 (.load1 (.t 16)),o 19 (.bin .quo (.t 1) (k 8)),o 20 (.call 47 [.t 17,.t 19]),o 21 (.extract 0 (.t 20)),o 22 (.extract 1 (.t 20)),o 23 (.extract 2 (.t 20)),o 4 (.newc 69 [.int .i64 (.ofNat 0),.int .i64 (.ofNat 0),.int .i64 (.ofNat 0),.str 0 0,.str 0 0,.bool false,.bool false,.bool false,.bool false,.bool false,.int .i64 (.ofNat 0),.int .i64 (.ofNat 0),.int .i64 (.ofNat 0),.int .i64 (.ofNat 0),.int .i64 (.ofNat 0),.str 0 0,.str 0 0,.str 0 0,.str 0 0,.nilslice,.nilslice]),⟨none,.store 21 (.t 4) (.t 21),none,0⟩,o 5 (.mv (.t 22)),o 6 (.mv (.t 23))])
 (.seq (.region [o 26 (.nilCheck (.t 0)),o 27 (.fieldAddr 19 (.t 26)),o 28 (.load1 (.t 27)),o 30 (.lookup false .nilptr true (.t 28) (.t 1)),o 31 (.extract 0 (.t 30)),o 32 (.extract 1 (.t 30)),o 8 (.mv (.t 32))])
 (.seq (.seq (.region [o 34 (.bin .neq (.t 6) (k 0)),g 36 (.mv (.t 5)) 34 false,g 37 (.mv (.t 1)) 34 false,g 38 (.bin .rem (.t 37) (k 8)) 34 false,g 39 (.idxAddrSl 5 (.t 36) (.t 38)) 34 false,g 40 (.fieldAddr 1 (.t 39)) 34 false,g 41 (.load1 (.t 40)) 34 false,g 42 (.bin .neq (.t 41) (.v (.str 1 82))) 34 false,o 43 (.pick (.t 34) (.v (.bool true)) (.t 42)),g 45 (.mv (.t 8)) 43 false,o 46 (.pick (.t 43) (.v (.bool true)) (.t 45))])
 (.cond (.t 46)
 .ret
 .skip))
 (.seq (.region [o 49 (.bin .rem (.t 1) (k 8)),o 50 (.idxAddrSl 5 (.t 5) (.t 49)),o 51 (.loadN 5 (.t 50)),o 9 (.newc 84 [.int .i64 (.ofNat 0),.str 0 0,.int .i64 (.ofNat 0),.int .i64 (.ofNat 0),.int .i64 (.ofNat 0)]),⟨none,.store 5 (.t 9) (.t 51),none,0⟩])
 (.seq (.draw [o 53 (.mv (.t 0)),⟨some 54,.nilCheck (.t 53),none,1⟩,⟨some 55,.fieldAddr 0 (.t 54),none,3⟩,⟨some 56,.fieldAddr 3 (.t 55),none,7⟩,⟨some 57,.loadN 4 (.t 56),none,15⟩,o 58 (.loadN 21 (.t 4)),o 59 (.loadN 5 (.t 9)),o 60 (.mv (.t 0)),⟨some 61,.call 30 [.t 60],none,128⟩,⟨some 62,.call 161 [.t 57,.t 58,.t 59,.t 61],none,511⟩,⟨some 52,.mv (.t 62),none,1023⟩,⟨some 63,.extract 0 (.t 52),none,2047⟩,⟨some 64,.extract 1 (.t 52),none,2047⟩,⟨some 65,.extract 2 (.t 52),none,2047⟩,o 10 (.newc 84 [.int .i64 (.ofNat 0),.str 0 0,.int .i64 (.ofNat 0),.int .i64 (.ofNat 0),.int .i64 (.ofNat 0)]),⟨none,.store 5 (.t 10) (.t 63),none,20479⟩,⟨some 11,.mv (.t 64),none,57343⟩,⟨some 12,.mv (.t 65),none,131071⟩])
 (.seq (.seq (.region [o 67 (.loadN 21 (.t 4)),o 68 (.loadN 5 (.t 9)),o 69 (.loadN 5 (.t 10)),o 71 (.build [.int .i64 (.ofNat 0),.int .i64 (.ofNat 0),.int .i64 (.ofNat 0),.int .i64 (.ofNat 0),.nilslice] []),o 72 (.call 154 [.t 0,.t 67,.t 68,.t 69,.t 11,.t 71]),o 73 (.un .not (.t 72)),g 75 (.mv (.t 0)) 73 false,g 76 (.nilCheck (.t 75)) 73 false,g 77 (.fieldAddr 10 (.t 76)) 73 false,g 78 (.load1 (.t 77)) 73 false,g 79 (.call 42 [.t 78]) 73 false,o 80 (.pick (.t 73) (.v (.bool true)) (.t 79))])
 (.cond (.t 80)
 .ret
 .skip))
 (.seq (.seq (.draw [o 81 (.fieldAddr 3 (.t 10)),⟨some 82,.load1 (.t 81),none,1⟩,o 83 (.mv (.t 0)),⟨some 84,.call 30 [.t 83],none,4⟩,⟨some 85,.bin .gtr (.t 82) (.t 84),none,15⟩,⟨some 86,.mv (.t 85),none,31⟩,⟨some 87,.fieldAddr 2 (.t 4),some (.t 86,false),63⟩,⟨some 88,.load1 (.t 87),some (.t 86,false),127⟩,⟨some 89,.mv (.t 0),some (.t 86,false),63⟩,⟨some 90,.call 30 [.t 89],some (.t 86,false),319⟩,⟨some 91,.bin .gtr (.t 88) (.t 90),some (.t 86,false),1023⟩,⟨some 92,.pick (.t 86) (.v (.bool true)) (.t 91),none,2047⟩])
 (.cond (.t 92)
 (.seq (.region [o 94 (.loadN 21 (.t 4)),o 95 (.fieldAddr 0 (.t 10)),o 96 (.load1 (.t 95)),o 97 (.loadN 5 (.t 10)),o 98 (.call 155 [.t 0,.t 94,.t 96,.t 97])])
 .ret)
 .skip))
 (.draw [o 99 (.mv (.t 0)),⟨some 100,.nilCheck (.t 99),none,1⟩,⟨some 101,.fieldAddr 14 (.t 100),none,3⟩,⟨some 102,.load1 (.t 101),none,7⟩,o 103 (.mv (.t 1)),o 104 (.mv (.t 0)),o 105 (.fieldAddr 19 (.t 4)),⟨some 106,.load1 (.t 105),none,64⟩,o 107 (.fieldAddr 0 (.t 10)),⟨some 108,.load1 (.t 107),none,256⟩,⟨some 109,.idxAddrSl 5 (.t 106) (.t 108),none,960⟩,⟨some 110,.fieldAddr 0 (.t 109),none,1984⟩,⟨some 111,.loadN 2 (.t 110),none,4032⟩,⟨some 112,.call 163 [.t 104,.t 111],none,8160⟩,o 113 (.fieldAddr 5 (.t 4)),⟨some 114,.fieldAddr 9 (.t 113),none,16384⟩,⟨some 115,.load1 (.t 114),none,49152⟩,o 116 (.mv (.t 0)),⟨some 117,.call 30 [.t 116],none,147424⟩,⟨some 118,.build [.int .i64 (.ofNat 0),.str 0 0,.int .i64 (.ofNat 0),.int .i64 (.ofNat 0)] [(0,1,.t 103),(1,1,.t 112),(2,1,.t 115),(3,1,.t 117)],none,524272⟩,⟨some 119,.call 162 [.t 102,.t 118],none,1048575⟩])))))))⟩
def e86 : T Unit := (eN (eN (eN (eS .leaf (eN .leaf (eN .leaf eU))) (eN (eN .leaf (eN .leaf eU)) (eS .leaf (eN .leaf eU)))) (eN (eN (eN .leaf eU) .leaf) (eN eU (eN eU .leaf)))) (eN (eN (eS (eS (eN .leaf eU) .leaf) .leaf) (eN eU (eN .leaf eU))) (eN (eN .leaf (eN .leaf eU)) (eS .leaf (eN eU .leaf)))))
def c87 : CFunc := ⟨42,[.cell 4 (some 4),.tmp 5],.seq (.region [o 2 (.box 94 (.t 0)),o 4 (.newc 164 [.int .i64 (.ofNat 0),.str 0 0,.int .i64 (.ofNat 0),.int .i64 (.ofNat 0)]),o 5 (.mv (.v (.bool false)))])
 (.seq (.region [o 8 (.load1 (.t 2)),o 10 (.call 164 [.t 8,.t 1]),o 6 (.mv (.t 10))])
 (.seq (.region [o 12 (.mkFunc 166 [] [.t 2]),o 13 (.call 165 [.t 6,.t 12]),o 7 (.mv (.t 13))])
 (.seq (.seq (.region [o 15 (.bin .lss (.t 7) (k 0))])
 (.cond (.t 15)
 (.seq (.region [o 16 (.build [.int .i64 (.ofNat 0),.str 0 0,.int .i64 (.ofNat 0),.int .i64 (.ofNat 0)] []),⟨none,.store 4 (.t 4) (.t 16),none,0⟩,o 5 (.mv (.v (.bool false)))])
 .ret)
 .skip))
 (.seq (.draw [o 17 (.load1 (.t 2)),o 18 (.mv (.t 6)),o 19 (.mv (.t 7)),⟨some 20,.idxAddrSl 4 (.t 18) (.t 19),none,6⟩,⟨some 21,.fieldAddr 0 (.t 20),none,14⟩,⟨some 22,.load1 (.t 21),none,30⟩,⟨some 23,.call 168 [.t 17,.t 22],none,63⟩])
 (.seq (.draw [o 24 (.load1 (.t 2)),⟨some 25,.nilCheck (.t 24),none,1⟩,⟨some 26,.fieldAddr 4 (.t 25),none,3⟩,⟨some 27,.load1 (.t 26),none,7⟩,o 28 (.mv (.t 6)),o 29 (.mv (.t 7)),⟨some 30,.idxAddrSl 4 (.t 28) (.t 29),none,48⟩,⟨some 31,.fieldAddr 0 (.t 30),none,112⟩,⟨some 32,.load1 (.t 31),none,240⟩,o 33 (.mv (.t 6)),o 34 (.mv (.t 7)),⟨some 35,.idxAddrSl 4 (.t 33) (.t 34),none,1536⟩,⟨some 36,.fieldAddr 1 (.t 35),none,3584⟩,⟨some 37,.load1 (.t 36),none,7680⟩,⟨none,.mapUpd false (.t 27) (.t 32) (.t 37),none,16383⟩])
 (.seq (.region [o 40 (.idxAddrSl 4 (.t 6) (.t 7)),o 41 (.loadN 4 (.t 40)),⟨none,.store 4 (.t 4) (.t 41),none,0⟩,o 5 (.mv (.v (.bool true)))])
 .ret))))))⟩
def e87 : T Unit := (eN (eN (eN (eS .leaf (eN .leaf eU)) .leaf) .leaf) (eN (eN .leaf eU) (eN eU (eN (eN .leaf eU) .leaf))))
def c88 : CFunc := ⟨119,[],.seq (.region [o 14 (.nilCheck (.t 0)),o 15 (.fieldAddr 11 (.t 14)),o 16 (.load1 (.t 15)),o 18 (.bin .quo (.t 1) (k 8)),o 19 (.call 47 [.t 16,.t 18]),o 20 (.extract 0 (.t 19)),o 21 (.extract 1 (.t 19)),o 22 (.extract 2 (.t 19)),o 4 (.newc 69 [.int .i64 (.ofNat 0),.int .i64 (.ofNat 0),.int .i64 (.ofNat 0),.str 0 0,.str 0 0,.bool false,.bool false,.bool false,.bool false,.bool false,.int .i64 (.ofNat 0),.int .i64 (.ofNat 0),.int .i64 (.ofNat 0),.int .i64 (.ofNat 0),.int .i64 (.ofNat 0),.str 0 0,.str 0 0,.str 0 0,.str 0 0,.nilslice,.nilslice]),⟨none,.store 21 (.t 4) (.t 20),none,0⟩,o 5 (.mv (.t 21))])
 (.seq (.region [o 25 (.bin .rem (.t 1) (k 8)),o 26 (.idxAddrSl 5 (.t 5) (.t 25)),o 27 (.loadN 5 (.t 26)),o 7 (.newc 84 [.int .i64 (.ofNat 0),.str 0 0,.int .i64 (.ofNat 0),.int .i64 (.ofNat 0),.int .i64 (.ofNat 0)]),⟨none,.store 5 (.t 7) (.t 27),none,0⟩])
 (.seq (.draw [o 29 (.mv (.t 0)),⟨some 30,.nilCheck (.t 29),none,1⟩,⟨some 31,.fieldAddr 0 (.t 30),none,3⟩,⟨some 32,.fieldAddr 3 (.t 31),none,7⟩,⟨some 33,.loadN 4 (.t 32),none,15⟩,o 34 (.loadN 21 (.t 4)),o 35 (.loadN 5 (.t 7)),o 36 (.mv (.t 0)),⟨some 37,.call 30 [.t 36],none,128⟩,⟨some 38,.call 161 [.t 33,.t 34,.t 35,.t 37],none,511⟩,⟨some 28,.mv (.t 38),none,1023⟩,⟨some 39,.extract 0 (.t 28),none,2047⟩,⟨some 40,.extract 1 (.t 28),none,2047⟩,⟨some 41,.extract 2 (.t 28),none,2047⟩,o 8 (.newc 84 [.int .i64 (.ofNat 0),.str 0 0,.int .i64 (.ofNat 0),.int .i64 (.ofNat 0),.int .i64 (.ofNat 0)]),⟨none,.store 5 (.t 8) (.t 39),none,20479⟩,⟨some 9,.mv (.t 40),none,57343⟩,⟨some 10,.mv (.t 41),none,131071⟩])
 (.seq (.seq (.region [o 43 (.loadN 21 (.t 4)),o 44 (.loadN 5 (.t 7)),o 45 (.loadN 5 (.t 8)),o 47 (.build [.int .i64 (.ofNat 0),.int .i64 (.ofNat 0),.int .i64 (.ofNat 0),.int .i64 (.ofNat 0),.nilslice] []),o 48 (.call 154 [.t 0,.t 43,.t 44,.t 45,.t 9,.t 47]),o 49 (.un .not (.t 48))])
 (.cond (.t 49)
 (.seq (.region [o 51 (.nilCheck (.t 0)),o 52 (.fieldAddr 14 (.t 51)),o 53 (.load1 (.t 52)),o 55 (.call 81 [.t 53,.t 1])])
 .ret)
 .skip))
 (.seq (.region [o 57 (.fieldAddr 19 (.t 4)),o 58 (.load1 (.t 57)),o 59 (.fieldAddr 0 (.t 8)),o 60 (.load1 (.t 59)),o 61 (.idxAddrSl 5 (.t 58) (.t 60)),o 62 (.fieldAddr 0 (.t 61)),o 63 (.loadN 2 (.t 62)),o 64 (.call 163 [.t 0,.t 63]),o 11 (.mv (.t 64))])
 (.seq (.seq (.region [o 67 (.nilCheck (.t 0)),o 68 (.fieldAddr 0 (.t 67)),o 69 (.fieldAddr 0 (.t 68)),o 70 (.load1 (.t 69)),o 71 (.bin .eql (.t 11) (.t 70))])
 (.cond (.t 71)
 (.seq (.region [o 73 (.nilCheck (.t 0)),o 74 (.fieldAddr 14 (.t 73)),o 75 (.load1 (.t 74)),o 77 (.call 81 [.t 75,.t 1])])
 (.seq (.region [o 79 (.fieldAddr 0 (.t 4)),o 80 (.load1 (.t 79)),o 81 (.fieldAddr 0 (.t 8)),o 82 (.load1 (.t 81)),o 83 (.fieldAddr 20 (.t 4)),o 84 (.load1 (.t 83)),o 85 (.build [.str 0 0,.int .i64 (.ofNat 0),.int .i64 (.ofNat 0),.int .i64 (.ofNat 0),.str 0 0,.nilslice] [(0,1,.v (.str 3 7892834)),(2,1,.t 80),(3,1,.t 82),(5,1,.t 84)]),o 86 (.buildSlice 46 6 1 [.str 0 0,.int .i64 (.ofNat 0),.int .i64 (.ofNat 0),.int .i64 (.ofNat 0),.str 0 0,.nilslice] [(0,6,.t 85)]),o 87 (.call 45 [.t 0,.t 86])])
 (.seq (.region [o 89 (.loadN 21 (.t 4)),o 90 (.loadN 5 (.t 8)),o 91 (.build [.int .i64 (.ofNat 0),.int .i64 (.ofNat 0),.int .i64 (.ofNat 0),.int .i64 (.ofNat 0),.nilslice] []),o 92 (.call 82 [.t 0,.t 89,.t 90,k 2,.t 91])])
 .ret)))
 .skip))
 (.seq (.draw [o 94 (.mv (.t 0)),⟨some 95,.nilCheck (.t 94),none,1⟩,⟨some 96,.fieldAddr 19 (.t 95),none,3⟩,⟨some 97,.load1 (.t 96),none,7⟩,o 98 (.mv (.t 1)),o 99 (.mv (.t 0)),⟨some 100,.nilCheck (.t 99),none,32⟩,⟨some 101,.fieldAddr 0 (.t 100),none,96⟩,⟨some 102,.fieldAddr 0 (.t 101),none,224⟩,⟨some 103,.load1 (.t 102),none,480⟩,o 104 (.loadN 21 (.t 4)),o 105 (.fieldAddr 0 (.t 8)),⟨some 106,.load1 (.t 105),none,2048⟩,⟨some 107,.call 169 [.t 103,.t 104,.t 106],none,8160⟩,⟨some 93,.mv (.t 107),none,16352⟩,⟨some 108,.extract 0 (.t 93),none,32736⟩,⟨some 109,.extract 1 (.t 93),none,32736⟩,⟨none,.mapUpd false (.t 97) (.t 98) (.t 108),none,65535⟩])
 (.region [o 111 (.fieldAddr 0 (.t 4)),o 112 (.load1 (.t 111)),o 113 (.fieldAddr 0 (.t 8)),o 114 (.load1 (.t 113)),o 116 (.build [.str 0 0,.int .i64 (.ofNat 0),.int .i64 (.ofNat 0),.int .i64 (.ofNat 0),.str 0 0,.nilslice] [(0,1,.v (.str 4 1818323300)),(2,1,.t 112),(3,1,.t 114),(4,1,.t 11)]),o 117 (.buildSlice 46 6 1 [.str 0 0,.int .i64 (.ofNat 0),.int .i64 (.ofNat 0),.int .i64 (.ofNat 0),.str 0 0,.nilslice] [(0,6,.t 116)]),o 118 (.call 45 [.t 0,.t 117])])))))))⟩
def e88 : T Unit := (eN (eN (eS (eN (eN .leaf (eS eU eU)) (eN eU .leaf)) (eN (eN .leaf eU) (eN eU (eN .leaf eU)))) (eN (eS (eN .leaf (eN .leaf eU)) .leaf) (eN (eS (eS .leaf eU) (eN .leaf eU)) .leaf))) (eN (eN eU (eN .leaf (eS .leaf (eN .leaf eU)))) (eN (eN .leaf (eN (eN eU .leaf) .leaf)) (eN eU .leaf))))
def c89 : CFunc := ⟨55,[.tmp 2,.tmp 3],.seq (.region [o 2 (.mv (.v .nilptr)),o 3 (.mv (k 0))])
 (.seq (.region [o 13 (.mkMap),o 14 (.build [.nilptr,.nilmap] [(0,1,.t 0),(1,1,.t 13)]),o 15 (.box 181 (.t 14)),o 4 (.mv (.t 15))])
 (.seq (.seq (.region [o 17 (.call 42 [.t 0])])
 (.cond (.t 17)
 (.seq (.region [o 2 (.mv (.v .nilptr)),o 3 (.mv (k 7))])
 .ret)
 .skip))
 (.seq (.region [o 19 (.call 170 [.t 0]),o 5 (.mv (.t 19))])
 (.seq (.seq (.region [o 20 (.mv (.t 5)),o 21 (.lenSl (.t 20)),o 22 (.mv (k 0))])
 (.block 0 (.loop (.seq (.region [o 23 (.bin .lss (.t 22) (.t 21))])
 (.seq (.cond (.t 23)
 .skip
 (.exit 0))
 (.seq (.block 1 (.seq (.region [o 24 (.idxAddrSl 1 (.t 20) (.t 22)),o 25 (.load1 (.t 24)),o 7 (.mv (.t 25))])
 (.seq (.region [o 29 (.call 171 [.t 4,.t 7,.t 5]),o 8 (.mv (.t 29))])
 (.seq (.region [o 31 (.bin .neq (.t 8) (k 0))])
 (.cond (.t 31)
 (.seq (.region [o 2 (.mv (.v .nilptr)),o 3 (.mv (.t 8))])
 .ret)
 .skip)))))
 (.region [o 33 (.bin .add (.t 22) (k 1)),o 22 (.mv (.t 33))])))))))
 (.seq (.seq (.region [o 35 (.nilCheck (.t 4)),o 36 (.fieldAddr 1 (.t 35)),o 37 (.load1 (.t 36)),o 38 (.lenMap (.t 37)),o 39 (.bin .gtr (.t 38) (k 32))])
 (.cond (.t 39)
 (.seq (.region [o 2 (.mv (.v .nilptr)),o 3 (.mv (k 8))])
 .ret)
 .skip))
 (.seq (.seq (.region [o 41 (.call 46 [.t 4]),o 42 (.lenSl (.t 41)),o 43 (.mv (k 0))])
 (.block 2 (.loop (.seq (.region [o 44 (.bin .lss (.t 43) (.t 42))])
 (.seq (.cond (.t 44)
 .skip
 (.exit 2))
 (.seq (.block 3 (.seq (.region [o 45 (.idxAddrSl 1 (.t 41) (.t 43)),o 46 (.load1 (.t 45)),o 10 (.mv (.t 46))])
 (.seq (.region [o 49 (.call 172 [.t 4,.t 10]),o 11 (.mv (.t 49))])
 (.seq (.region [o 51 (.bin .neq (.t 11) (k 0))])
 (.cond (.t 51)
 (.seq (.region [o 2 (.mv (.v .nilptr)),o 3 (.mv (.t 11))])
 .ret)
 .skip)))))
 (.region [o 53 (.bin .add (.t 43) (k 1)),o 43 (.mv (.t 53))])))))))
 (.seq (.region [o 2 (.mv (.t 4)),o 3 (.mv (k 0))])
 .ret)))))))⟩
def e89 : T Unit := (eN (eN (eN (eN eU (eN eU .leaf)) (eN eU (eS eU eU))) (eN (eS eU (eN eU .leaf)) (eN (eN .leaf eU) (eS eU eU)))) (eN .leaf (eN (eN eU .leaf) (eN .leaf (eN eU .leaf)))))
def c90 : CFunc := ⟨60,[.tmp 2,.tmp 3],.seq (.region [o 2 (.mv (k 0)),o 3 (.mv (k 0))])
 (.seq (.region [o 12 (.call 173 [.t 0,.v (.str 1 104)]),o 13 (.extract 0 (.t 12)),o 14 (.extract 1 (.t 12)),o 4 (.mv (.t 13)),o 5 (.mv (.t 14))])
 (.seq (.seq (.region [o 16 (.bin .eql (.t 5) (k 4))])
 (.cond (.t 16)
 (.seq (.region [o 2 (.mv (k 0)),o 3 (.mv (k 0))])
 .ret)
 .skip))
 (.seq (.seq (.region [o 18 (.bin .neq (.t 5) (k 0))])
 (.cond (.t 18)
 (.seq (.region [o 2 (.mv (k 0)),o 3 (.mv (.t 5))])
 .ret)
 .skip))
 (.seq (.region [o 22 (.call 174 [.t 4]),o 23 (.extract 0 (.t 22)),o 24 (.extract 1 (.t 22)),o 6 (.mv (.t 23)),o 7 (.mv (.t 24))])
 (.seq (.seq (.region [o 26 (.lenSl (.t 6)),o 27 (.bin .neq (.t 26) (k 1)),g 29 (.mv (.t 7)) 27 false,g 30 (.mv (.t 4)) 27 false,g 31 (.lenStr (.t 30)) 27 false,g 32 (.bin .neq (.t 29) (.t 31)) 27 false,o 33 (.pick (.t 27) (.v (.bool true)) (.t 32))])
 (.cond (.t 33)
 (.seq (.region [o 2 (.mv (k 0)),o 3 (.mv (k 8))])
 .ret)
 .skip))
 (.seq (.region [o 36 (.idxAddrSl 1 (.t 6) (k 0)),o 37 (.load1 (.t 36)),o 38 (.call 175 [.t 37]),o 39 (.extract 0 (.t 38)),o 40 (.extract 1 (.t 38)),o 8 (.mv (.t 39)),o 9 (.mv (.t 40))])
 (.seq (.seq (.draw [o 41 (.mv (.t 9)),⟨some 42,.eql true (.leaf 7) (.t 41) (.v .nilIface),none,1⟩,⟨some 43,.mv (.t 42),none,3⟩,⟨some 44,.mv (.t 8),some (.t 43,false),7⟩,⟨some 45,.call 71 [.t 44],some (.t 43,false),15⟩,⟨some 46,.mv (.t 6),some (.t 43,false),7⟩,⟨some 47,.idxAddrSl 1 (.t 46) (k 0),some (.t 43,false),39⟩,⟨some 48,.load1 (.t 47),some (.t 43,false),103⟩,⟨some 49,.bin .neq (.t 45) (.t 48),some (.t 43,false),255⟩,⟨some 50,.pick (.t 43) (.v (.bool true)) (.t 49),none,511⟩,⟨some 51,.mv (.t 50),none,1023⟩,⟨some 52,.mv (.t 8),some (.t 51,false),2047⟩,⟨some 53,.bin .lss (.t 52) (k 0),some (.t 51,false),4095⟩,⟨some 54,.pick (.t 51) (.v (.bool true)) (.t 53),none,8191⟩,⟨some 55,.mv (.t 54),none,16383⟩,⟨some 56,.mv (.t 8),some (.t 55,false),32767⟩,⟨some 57,.bin .gtr (.t 56) (k 1099511627776),some (.t 55,false),65535⟩,⟨some 58,.pick (.t 55) (.v (.bool true)) (.t 57),none,131071⟩])
 (.cond (.t 58)
 (.seq (.region [o 2 (.mv (k 0)),o 3 (.mv (k 8))])
 .ret)
 .skip))
 (.seq (.region [o 2 (.mv (.t 8)),o 3 (.mv (k 0))])
 .ret))))))))⟩
def e90 : T Unit := (eN (eN (eN .leaf (eS .leaf (eN .leaf eU))) (eN (eN eU eU) .leaf)) (eN (eN (eN .leaf eU) (eN eU eU)) (eN (eS (eN eU .leaf) (eS .leaf eU)) (eN .leaf eU))))
def c91 : CFunc := ⟨15,[.tmp 2,.tmp 3],.seq (.region [o 2 (.mv (.v .nilptr)),o 3 (.mv (k 0))])
 (.seq (.seq (.region [o 5 (.bin .lss (.t 0) (k 0)),g 7 (.mv (.t 0)) 5 false,g 8 (.bin .gtr (.t 7) (k 1099511627776)) 5 false,o 9 (.pick (.t 5) (.v (.bool true)) (.t 8))])
 (.cond (.t 9)
 (.seq (.region [o 2 (.mv (.v .nilptr)),o 3 (.mv (k 1))])
 .ret)
 .skip))
 (.seq (.region [o 11 (.mkMap),o 12 (.mkMap),o 13 (.build [.int .i64 (.ofNat 0),.nilmap,.nilmap,.nilmap,.nilmap,.nilmap,.nilmap,.nilmap,.nilmap,.nilmap,.nilmap,.nilmap,.nilmap,.nilmap,.nilmap,.nilmap,.nilmap,.nilmap,.nilmap,.nilmap,.nilmap,.nilmap,.nilmap,.nilmap,.nilmap,.nilmap,.nilmap,.nilmap,.nilmap,.nilmap,.nilmap,.nilmap,.nilmap,.nilmap,.nilmap,.nilmap,.nilmap,.nilmap,.nilmap,.nilmap,.nilmap,.nilmap,.nilmap,.nilmap,.nilmap,.nilmap,.nilmap,.nilmap,.nilmap,.nilmap,.nilmap,.nilmap,.nilmap,.nilmap,.nilmap,.nilmap,.nilmap,.nilmap,.nilmap,.nilmap,.nilmap,.nilmap,.nilmap,.nilmap,.nilmap,.nilmap,.nilmap,.nilmap,.nilmap,.nilmap,.nilmap,.nilmap,.nilmap,.nilmap,.nilmap,.nilmap,.nilmap,.nilmap,.nilmap,.nilmap,.nilmap,.nilmap,.nilmap,.nilmap,.nilmap,.nilmap,.nilmap,.nilmap,.nilmap,.nilmap,.nilmap,.nilmap,.nilmap,.nilmap,.nilmap,.nilmap,.nilmap,.nilmap,.nilmap,.nilmap,.nilmap,.nilmap,.nilmap,.nilmap,.nilmap,.nilmap,.nilmap,.nilmap,.nilmap,.nilmap,.nilmap,.nilmap,.nilmap,.nilmap,.nilmap,.nilmap,.nilmap,.nilmap,.nilmap,.nilmap,.nilmap,.nilmap,.nilmap,.nilmap,.nilmap,.nilmap,.nilmap,.nilmap,.nilmap,.nilmap,.nilmap,.nilmap,.nilmap,.nilmap,.nilmap,.nilmap,.nilmap,.nilmap,.nilmap,.nilmap,.nilmap,.nilmap,.nilmap,.nilmap,.nilmap,.nilmap,.nilmap,.nilmap,.nilmap,.nilmap,.nilmap,.nilmap,.nilmap,.nilmap,.nilmap,.nilmap,.nilmap,.nilmap,.nilmap,.nilmap,.nilmap,.nilmap,.nilmap,.nilmap,.nilmap,.nilmap,.nilmap,.nilmap,.nilmap,.nilmap,.nilmap,.nilmap,.nilmap,.nilmap,.nilmap,.nilmap,.nilmap,.nilmap,.nilmap,.nilmap,.nilmap,.nilmap,.nilmap,.nilmap,.nilmap,.nilmap,.nilmap,.nilmap,.nilmap,.nilmap,.nilmap,.nilmap,.nilmap,.nilmap,.nilmap,.nilmap,.nilmap,.nilmap,.nilmap,.nilmap,.nilmap,.nilmap,.nilmap,.nilmap,.nilmap,.nilmap,.nilmap,.nilmap,.nilmap,.nilmap,.nilmap,.nilmap,.nilmap,.nilmap,.nilmap,.nilmap,.nilmap,.nilmap,.nilmap,.nilmap,.nilmap,.nilmap,.nilmap,.nilmap,.nilmap,.nilmap,.nilmap,.nilmap,.nilmap,.nilmap,.nilmap,.nilmap,.nilmap,.nilmap,.nilmap,.nilmap,.nilmap,.nilmap,.nilmap,.nilmap,.nilmap,.nilmap,.nilmap,.nilmap,.nilmap,.nilmap,.nilmap,.nilmap,.nilmap,.nilmap,.nilmap,.nilmap,.nilmap,.nilmap,.nilmap,.nilmap,.nilmap,.nilmap,.nilmap] [(0,1,.t 0),(257,1,.t 11),(258,1,.t 12)]),o 14 (.box 251 (.t 13)),o 2 (.mv (.t 14)),o 3 (.mv (k 0))])
 .ret))⟩
def e91 : T Unit := (eN (eN (eS .leaf eU) eU) .leaf)
def c92 : CFunc := ⟨5,[.tmp 2],.seq (.region [o 2 (.mv (.v (.bool false)))])
 (.seq (.region [o 4 (.call 176 [.t 0,.v (.func (.func 177) [] [])]),o 2 (.mv (.t 4))])
 .ret)⟩
def e92 : T Unit := (eN .leaf (eN .leaf eU))
def c93 : CFunc := ⟨32,[],.seq (.region [o 11 (.nilCheck (.t 0)),o 12 (.fieldAddr 11 (.t 11)),o 13 (.load1 (.t 12)),o 15 (.call 47 [.t 13,.t 1]),o 16 (.extract 0 (.t 15)),o 17 (.extract 1 (.t 15)),o 18 (.extract 2 (.t 15)),o 4 (.newc 69 [.int .i64 (.ofNat 0),.int .i64 (.ofNat 0),.int .i64 (.ofNat 0),.str 0 0,.str 0 0,.bool false,.bool false,.bool false,.bool false,.bool false,.int .i64 (.ofNat 0),.int .i64 (.ofNat 0),.int .i64 (.ofNat 0),.int .i64 (.ofNat 0),.int .i64 (.ofNat 0),.str 0 0,.str 0 0,.str 0 0,.str 0 0,.nilslice,.nilslice]),⟨none,.store 21 (.t 4) (.t 16),none,0⟩,o 5 (.mv (.t 17))])
 (.seq (.region [o 19 (.mv (.t 5)),o 20 (.lenSl (.t 19)),o 21 (.mv (k 0))])
 (.block 0 (.loop (.seq (.region [o 22 (.bin .lss (.t 21) (.t 20))])
 (.seq (.cond (.t 22)
 .skip
 (.exit 0))
 (.seq (.block 1 (.seq (.region [o 24 (.idxAddrSl 5 (.t 19) (.t 21)),o 25 (.loadN 5 (.t 24)),o 8 (.newc 84 [.int .i64 (.ofNat 0),.str 0 0,.int .i64 (.ofNat 0),.int .i64 (.ofNat 0),.int .i64 (.ofNat 0)]),o 7 (.mv (.t 21)),⟨none,.store 5 (.t 8) (.t 25),none,0⟩])
 (.region [o 27 (.loadN 21 (.t 4)),o 29 (.loadN 5 (.t 8)),o 30 (.call 155 [.t 0,.t 27,.t 7,.t 29])])))
 (.region [o 31 (.bin .add (.t 21) (k 1)),o 21 (.mv (.t 31))])))))))⟩
def e93 : T Unit := (eN (eN (eS eU (eS eU .leaf)) (eN (eN eU .leaf) .leaf)) (eN (eN .leaf eU) (eN .leaf (eN eU .leaf))))
def c95 : CFunc := ⟨4,[.tmp 2],.seq (.region [o 1 (.box 177 (.t 0)),o 2 (.mv (.v .nilFunc))])
 (.seq (.region [o 3 (.mkFunc 183 [] [.t 1]),o 2 (.mv (.t 3))])
 .ret)⟩
def e95 : T Unit := .leaf
def c96 : CFunc := ⟨8,[.tmp 2],.seq (.region [o 2 (.mv (.v .nilslice))])
 (.seq (.seq (.region [o 4 (.eql false (.leaf 4) (.t 0) (.v .nilslice))])
 (.cond (.t 4)
 (.seq (.region [o 2 (.mv (.v .nilslice))])
 .ret)
 .skip))
 (.seq (.region [o 5 (.buildSlice 187 5 0 [.str 0 0,.str 0 0,.str 0 0,.str 0 0,.str 0 0] []),o 7 (.append 187 5 80 (.t 5) (.t 0)),o 2 (.mv (.t 7))])
 .ret))⟩
def e96 : T Unit := (eN (eN eU .leaf) (eN .leaf eU))
def c97 : CFunc := ⟨8,[.tmp 2],.seq (.region [o 2 (.mv (.v .nilslice))])
 (.seq (.seq (.region [o 4 (.eql false (.leaf 4) (.t 0) (.v .nilslice))])
 (.cond (.t 4)
 (.seq (.region [o 2 (.mv (.v .nilslice))])
 .ret)
 .skip))
 (.seq (.region [o 5 (.buildSlice 9 1 0 [.str 0 0] []),o 7 (.append 9 1 16 (.t 5) (.t 0)),o 2 (.mv (.t 7))])
 .ret))⟩
def e97 : T Unit := (eN (eN eU .leaf) (eN .leaf eU))
def c98 : CFunc := ⟨8,[.tmp 2],.seq (.region [o 2 (.mv (.v .nilslice))])
 (.seq (.seq (.region [o 4 (.eql false (.leaf 4) (.t 0) (.v .nilslice))])
 (.cond (.t 4)
 (.seq (.region [o 2 (.mv (.v .nilslice))])
 .ret)
 .skip))
 (.seq (.region [o 5 (.buildSlice 84 5 0 [.int .i64 (.ofNat 0),.str 0 0,.int .i64 (.ofNat 0),.int .i64 (.ofNat 0),.int .i64 (.ofNat 0)] []),o 7 (.append 84 5 48 (.t 5) (.t 0)),o 2 (.mv (.t 7))])
 .ret))⟩
def e98 : T Unit := (eN (eN eU .leaf) (eN .leaf eU))
def c99 : CFunc := ⟨9,[.tmp 4],.seq (.region [o 4 (.mv (.v (.bool false)))])
 (.seq (.region [o 7 (.call 184 [.t 0,.t 1]),o 8 (.bin .geq (.t 7) (k 0)),o 4 (.mv (.t 8))])
 .ret)⟩
def e99 : T Unit := (eN (eN eU .leaf) (eN eU .leaf))
def c100 : CFunc := ⟨18,[.tmp 4],.seq (.region [o 4 (.mv (.v (.bool false)))])
 (.seq (.region [o 6 (.lenStr (.t 0)),o 8 (.lenStr (.t 1)),o 9 (.bin .geq (.t 6) (.t 8)),g 11 (.mv (.t 0)) 9 true,g 12 (.mv (.t 1)) 9 true,g 13 (.lenStr (.t 12)) 9 true,g 14 (.sliceStr (.t 11) none (some (.t 13))) 9 true,g 15 (.mv (.t 1)) 9 true,g 16 (.bin .eql (.t 14) (.t 15)) 9 true,o 17 (.pick (.t 9) (.t 16) (.v (.bool false))),o 4 (.mv (.t 17))])
 .ret)⟩
def e100 : T Unit := (eN (eN (eN .leaf eU) .leaf) (eN eU (eN .leaf eU)))
def c101 : CFunc := ⟨20,[],.seq (.region [o 3 (.nilCheck (.t 0)),o 4 (.fieldAddr 0 (.t 3)),o 5 (.load1 (.t 4)),o 6 (.eql false (.leaf 3) (.t 5) (.v .nilptr))])
 (.cond (.t 6)
 (.region [o 9 (.unsafeTo (.t 0)),o 10 (.call 185 [.t 9]),o 11 (.unsafeFrom 111 1 (.t 10)),o 12 (.nilCheck (.t 0)),o 13 (.fieldAddr 0 (.t 12)),⟨none,.store 1 (.t 13) (.t 11),none,0⟩])
 (.seq (.region [o 15 (.nilCheck (.t 0)),o 16 (.fieldAddr 0 (.t 15)),o 17 (.load1 (.t 16)),o 19 (.eql true (.leaf 3) (.t 17) (.t 0))])
 (.cond (.t 19)
 .fail
 .skip)))⟩
def e101 : T Unit := (eN (eS (eN eU (eN .leaf eU)) (eN .leaf eU)) (eN .leaf (eN .leaf eU)))
def c105 : CFunc := ⟨50,[.cell 2 none,.cell 3 none],.seq (.region [o 2 (.newc 9 [.str 0 0]),o 3 (.newc 34 [.int .i64 (.ofNat 0)])])
 (.seq (.seq (.region [o 8 (.lenStr (.t 0)),o 9 (.bin .gtr (.t 8) (k 255))])
 (.cond (.t 9)
 (.seq (.region [⟨none,.store 1 (.t 2) (.v (.str 0 0)),none,0⟩,⟨none,.store 1 (.t 3) (k 3),none,0⟩])
 .ret)
 .skip))
 (.seq (.seq (.region [o 11 (.call 189 [.t 0,.v (.str 1 46)])])
 (.block 0 (.rangeFunc (.t 11) [12] (.region [o 4 (.mv (.t 12))]) (.block 1 (.seq (.seq (.region [o 14 (.bin .eql (.t 4) (.v (.str 0 0))),g 16 (.mv (.t 4)) 14 false,g 17 (.lenStr (.t 16)) 14 false,g 18 (.bin .gtr (.t 17) (k 63)) 14 false,o 19 (.pick (.t 14) (.v (.bool true)) (.t 18)),g 21 (.mv (.t 4)) 19 false,g 22 (.idxStr (.t 21) (k 0)) 19 false,g 23 (.bin .eql (.t 22) (.v (.int .u8 (.ofNat 45)))) 19 false,o 24 (.pick (.t 19) (.v (.bool true)) (.t 23)),g 26 (.mv (.t 4)) 24 false,g 27 (.mv (.t 4)) 24 false,g 28 (.lenStr (.t 27)) 24 false,g 29 (.bin .sub (.t 28) (k 1)) 24 false,g 30 (.idxStr (.t 26) (.t 29)) 24 false,g 31 (.bin .eql (.t 30) (.v (.int .u8 (.ofNat 45)))) 24 false,o 32 (.pick (.t 24) (.v (.bool true)) (.t 31))])
 (.cond (.t 32)
 (.seq (.region [⟨none,.store 1 (.t 2) (.v (.str 0 0)),none,0⟩,⟨none,.store 1 (.t 3) (k 2),none,0⟩])
 .ret)
 .skip))
 (.seq (.region [o 34 (.bytesOfStr 5 (.t 4)),o 35 (.lenSl (.t 34)),o 36 (.mv (k 0))])
 (.block 2 (.loop (.seq (.region [o 37 (.bin .lss (.t 36) (.t 35))])
 (.seq (.cond (.t 37)
 .skip
 (.exit 2))
 (.seq (.block 3 (.seq (.region [o 38 (.idxAddrSl 1 (.t 34) (.t 36)),o 39 (.load1 (.t 38)),o 6 (.mv (.t 39))])
 (.seq (.region [o 41 (.call 190 [.t 6]),o 42 (.un .not (.t 41)),g 44 (.mv (.t 6)) 42 true,g 45 (.bin .neq (.t 44) (.v (.int .u8 (.ofNat 45)))) 42 true,o 46 (.pick (.t 42) (.t 45) (.v (.bool false)))])
 (.cond (.t 46)
 (.seq (.region [⟨none,.store 1 (.t 2) (.v (.str 0 0)),none,0⟩,⟨none,.store 1 (.t 3) (k 2),none,0⟩])
 .ret)
 .skip))))
 (.region [o 47 (.bin .add (.t 36) (k 1)),o 36 (.mv (.t 47))]))))))))))))
 (.seq (.region [o 49 (.call 191 [.t 0]),⟨none,.store 1 (.t 2) (.t 49),none,0⟩,⟨none,.store 1 (.t 3) (k 0),none,0⟩])
 .ret)))⟩
def e105 : T Unit := (eN (eN (eN .leaf eU) (eN (eN .leaf eU) (eN (eN .leaf eU) (eN eU .leaf)))) (eN (eN eU (eN eU (eN .leaf eU))) (eN (eN (eN .leaf eU) .leaf) (eS .leaf eU))))
def c106 : CFunc := ⟨44,[.tmp 2,.tmp 3],.seq (.region [o 1 (.box 39 (.t 0)),o 2 (.mv (.v .nilslice)),o 3 (.mv (k 0))])
 (.seq (.seq (.region [o 9 (.loadN 5 (.t 1)),o 10 (.call 152 [.t 9]),o 4 (.mv (.t 10))])
 (.seq (.region [o 12 (.bin .neq (.t 4) (k 0))])
 (.cond (.t 12)
 (.seq (.region [o 2 (.mv (.v .nilslice)),o 3 (.mv (.t 4))])
 .ret)
 .skip)))
 (.seq (.region [o 5 (.mv (.v .nilslice))])
 (.seq (.seq (.region [o 14 (.fieldAddr 4 (.t 1)),o 15 (.load1 (.t 14)),o 16 (.lenSl (.t 15)),o 17 (.mv (k 0))])
 (.block 0 (.loop (.seq (.region [o 18 (.bin .lss (.t 17) (.t 16))])
 (.seq (.cond (.t 18)
 .skip
 (.exit 0))
 (.seq (.block 1 (.seq (.region [o 20 (.idxAddrSl 1 (.t 15) (.t 17)),o 21 (.load1 (.t 20)),o 6 (.mv (.t 17)),o 7 (.mv (.t 21))])
 (.seq (.region [o 8 (.mv (.v (.str 1 45)))])
 (.seq (.seq (.region [o 23 (.fieldAddr 4 (.t 1)),o 24 (.load1 (.t 23)),o 25 (.lenSl (.t 24)),o 26 (.bin .sub (.t 25) (k 1)),o 27 (.bin .eql (.t 6) (.t 26))])
 (.cond (.t 27)
 (.region [o 8 (.mv (.v (.str 1 32)))])
 .skip))
 (.draw [o 28 (.mv (.t 5)),o 29 (.fieldAddr 0 (.t 1)),⟨some 30,.load1 (.t 29),none,2⟩,⟨some 31,.call 71 [.t 30],none,6⟩,o 32 (.mv (.t 8)),⟨some 33,.bin .add (.t 31) (.t 32),none,30⟩,o 34 (.fieldAddr 1 (.t 1)),⟨some 35,.loadN 3 (.t 34),none,64⟩,⟨some 36,.call 192 [.t 35],none,206⟩,⟨some 37,.bin .add (.t 33) (.t 36),none,510⟩,o 38 (.mv (.t 7)),⟨some 39,.bin .add (.t 37) (.t 38),none,2046⟩,⟨some 40,.buildSlice 9 1 1 [.str 0 0] [(0,1,.t 39)],none,4094⟩,⟨some 41,.append 9 1 16 (.t 28) (.t 40),none,8191⟩,⟨some 5,.mv (.t 41),none,16383⟩])))))
 (.region [o 42 (.bin .add (.t 17) (k 1)),o 17 (.mv (.t 42))])))))))
 (.seq (.region [o 2 (.mv (.t 5)),o 3 (.mv (k 0))])
 .ret))))⟩
def e106 : T Unit := (eN (eN (eN (eN .leaf eU) .leaf) .leaf) (eN (eN eU .leaf) (eN (eS (eN .leaf eU) eU) .leaf)))
def c107 : CFunc := ⟨17,[.cell 6 (some 5)],.seq (.region [o 6 (.newc 39 [.int .i64 (.ofNat 0),.int .i64 (.ofNat 0),.int .i64 (.ofNat 0),.int .i64 (.ofNat 0),.nilslice])])
 (.seq (.region [o 13 (.call 129 [.t 0,.t 1,.t 2]),o 14 (.extract 0 (.t 13)),o 15 (.extract 1 (.t 13)),o 7 (.newc 39 [.int .i64 (.ofNat 0),.int .i64 (.ofNat 0),.int .i64 (.ofNat 0),.int .i64 (.ofNat 0),.nilslice]),⟨none,.store 5 (.t 7) (.t 14),none,0⟩])
 (.seq (.region [o 16 (.loadN 5 (.t 7)),⟨none,.store 5 (.t 6) (.t 16),none,0⟩])
 .ret))⟩
def e107 : T Unit := (eN (eN (eN .leaf eU) (eN eU eU)) (eN (eN .leaf eU) (eN eU .leaf)))
def c108 : CFunc := ⟨50,[],.seq (.region [o 5 (.load1 (.t 1)),o 6 (.nilCheck (.t 5)),o 7 (.fieldAddr 3 (.t 6)),o 8 (.load1 (.t 7)),o 9 (.bin .add (.t 8) (k 1)),o 10 (.nilCheck (.t 5)),o 11 (.fieldAddr 3 (.t 10)),⟨none,.store 1 (.t 11) (.t 9),none,0⟩])
 (.seq (.seq (.draw [o 12 (.load1 (.t 1)),⟨some 13,.nilCheck (.t 12),none,1⟩,⟨some 14,.fieldAddr 3 (.t 13),none,3⟩,⟨some 15,.load1 (.t 14),none,7⟩,o 16 (.load1 (.t 1)),⟨some 17,.nilCheck (.t 16),none,16⟩,⟨some 18,.fieldAddr 0 (.t 17),none,48⟩,⟨some 19,.load1 (.t 18),none,112⟩,⟨some 20,.bin .leq (.t 15) (.t 19),none,255⟩])
 (.cond (.t 20)
 (.draw [o 21 (.load1 (.t 1)),o 22 (.load1 (.t 1)),⟨some 23,.nilCheck (.t 22),none,2⟩,⟨some 24,.fieldAddr 2 (.t 23),none,6⟩,⟨some 25,.load1 (.t 24),none,14⟩,o 26 (.mv (.t 0)),⟨some 27,.buildSlice 5 1 1 [.int .u8 (.ofNat 0)] [(0,1,.t 26)],none,32⟩,⟨some 28,.append 5 1 1 (.t 25) (.t 27),none,126⟩,⟨some 29,.nilCheck (.t 21),none,255⟩,⟨some 30,.fieldAddr 2 (.t 29),none,511⟩,⟨none,.store 1 (.t 30) (.t 28),none,1023⟩])
 .skip))
 (.seq (.region [o 31 (.load1 (.t 1)),o 32 (.nilCheck (.t 31)),o 33 (.fieldAddr 4 (.t 32)),o 34 (.load1 (.t 33)),g 36 (.mv (.t 0)) 34 true,g 37 (.bin .eql (.t 36) (.v (.int .u8 (.ofNat 10)))) 34 true,o 38 (.pick (.t 34) (.t 37) (.v (.bool false))),o 4 (.mv (.t 38))])
 (.seq (.region [o 39 (.load1 (.t 1)),o 41 (.bin .eql (.t 0) (.v (.int .u8 (.ofNat 13)))),o 42 (.nilCheck (.t 39)),o 43 (.fieldAddr 4 (.t 42)),⟨none,.store 1 (.t 43) (.t 41),none,0⟩])
 (.seq (.region [o 44 (.mv (.t 4))])
 (.cond (.t 44)
 (.draw [o 45 (.load1 (.t 2)),o 46 (.load1 (.t 1)),⟨some 47,.call 109 [.t 46],none,2⟩,⟨some 48,.buildSlice 141 2 1 [.str 0 0,.int .i64 (.ofNat 0)] [(0,2,.t 47)],none,6⟩,⟨some 49,.append 141 2 24 (.t 45) (.t 48),none,15⟩,⟨none,.store 1 (.t 2) (.t 49),none,31⟩])
 .skip)))))⟩
def e108 : T Unit := (eN (eN .leaf (eN .leaf (eN (eN .leaf eU) .leaf))) (eN .leaf (eN (eN .leaf (eN .leaf eU)) .leaf)))
def c109 : CFunc := ⟨53,[.cell 2 (some 2)],.seq (.region [o 2 (.newc 141 [.str 0 0,.int .i64 (.ofNat 0)])])
 (.seq (.draw [o 5 (.mv (.t 0)),⟨some 6,.nilCheck (.t 5),none,1⟩,⟨some 7,.fieldAddr 2 (.t 6),none,3⟩,⟨some 8,.load1 (.t 7),none,7⟩,o 9 (.mv (.t 0)),⟨some 10,.nilCheck (.t 9),none,16⟩,⟨some 11,.fieldAddr 2 (.t 10),none,48⟩,⟨some 12,.load1 (.t 11),none,112⟩,⟨some 13,.lenSl (.t 12),none,240⟩,⟨some 14,.bin .sub (.t 13) (k 2),none,496⟩,⟨some 15,.max [k 0,.t 14],none,1008⟩,⟨some 16,.sliceSl 1 (.t 8) none (some (.t 15)) none,none,2047⟩,⟨some 17,.strOfBytes (.t 16),none,4095⟩,⟨some 3,.mv (.t 17),none,8191⟩])
 (.seq (.region [o 19 (.build [.str 0 0,.int .i64 (.ofNat 0)] [(0,1,.t 3)]),o 4 (.newc 141 [.str 0 0,.int .i64 (.ofNat 0)]),⟨none,.store 2 (.t 4) (.t 19),none,0⟩])
 (.seq (.block 0 (.seq (.draw [o 21 (.mv (.t 0)),⟨some 22,.nilCheck (.t 21),none,1⟩,⟨some 23,.fieldAddr 3 (.t 22),none,3⟩,⟨some 24,.load1 (.t 23),none,7⟩,o 25 (.mv (.t 0)),⟨some 26,.nilCheck (.t 25),none,16⟩,⟨some 27,.fieldAddr 0 (.t 26),none,48⟩,⟨some 28,.load1 (.t 27),none,112⟩,⟨some 29,.bin .gtr (.t 24) (.t 28),none,255⟩,⟨some 20,.mv (.t 29),none,511⟩])
 (.cond (.t 20)
 (.region [o 30 (.build [.str 0 0,.int .i64 (.ofNat 0)] [(1,1,k 3)]),⟨none,.store 2 (.t 4) (.t 30),none,0⟩])
 (.seq (.region [o 33 (.call 48 [.t 3]),o 34 (.un .not (.t 33)),o 31 (.mv (.t 34))])
 (.cond (.t 31)
 (.region [o 35 (.build [.str 0 0,.int .i64 (.ofNat 0)] [(1,1,k 2)]),⟨none,.store 2 (.t 4) (.t 35),none,0⟩])
 .skip)))))
 (.seq (.region [o 39 (.nilCheck (.t 0)),o 40 (.fieldAddr 2 (.t 39)),⟨none,.store 1 (.t 40) (.v .nilslice),none,0⟩,o 41 (.nilCheck (.t 0)),o 42 (.fieldAddr 3 (.t 41)),⟨none,.store 1 (.t 42) (k 0),none,0⟩,o 43 (.nilCheck (.t 0)),o 44 (.fieldAddr 4 (.t 43)),⟨none,.store 1 (.t 44) (.v (.bool false)),none,0⟩])
 (.seq (.region [o 46 (.nilCheck (.t 0)),o 47 (.fieldAddr 1 (.t 46)),o 48 (.load1 (.t 47)),o 49 (.bin .add (.t 48) (k 1)),o 50 (.nilCheck (.t 0)),o 51 (.fieldAddr 1 (.t 50)),⟨none,.store 1 (.t 51) (.t 49),none,0⟩])
 (.seq (.region [o 52 (.loadN 2 (.t 4)),⟨none,.store 2 (.t 2) (.t 52),none,0⟩])
 .ret))))))⟩
def e109 : T Unit := (eN (eN (eN (eN .leaf (eN .leaf eU)) (eN .leaf eU)) (eN (eN .leaf (eN .leaf eU)) (eN .leaf (eN .leaf eU)))) (eN (eN (eN (eN .leaf eU) (eN .leaf eU)) .leaf) .leaf))
def c110 : CFunc := ⟨20,[],.seq (.region [o 5 (.build [.int .i64 (.ofNat 0),.int .i64 (.ofNat 0),.int .i64 (.ofNat 0),.str 0 0,.str 0 0,.bool false,.bool false,.bool false,.bool false,.bool false,.int .i64 (.ofNat 0),.int .i64 (.ofNat 0),.int .i64 (.ofNat 0),.int .i64 (.ofNat 0),.int .i64 (.ofNat 0),.str 0 0,.str 0 0,.str 0 0,.str 0 0,.nilslice,.nilslice] []),o 6 (.nilCheck (.t 0)),o 7 (.fieldAddr 6 (.t 6)),⟨none,.store 21 (.t 7) (.t 5),none,0⟩,o 8 (.nilCheck (.t 0)),o 9 (.fieldAddr 27 (.t 8)),⟨none,.store 1 (.t 9) (.v (.bool false)),none,0⟩,o 10 (.nilCheck (.t 0)),o 11 (.fieldAddr 28 (.t 10)),⟨none,.store 1 (.t 11) (.v (.bool false)),none,0⟩])
 (.region [o 14 (.nilCheck (.t 0)),o 15 (.fieldAddr 3 (.t 14)),o 16 (.load1 (.t 15)),o 17 (.min [.t 16,k 1]),o 18 (.nilCheck (.t 0)),o 19 (.fieldAddr 3 (.t 18)),⟨none,.store 1 (.t 19) (.t 17),none,0⟩])⟩
def e110 : T Unit := (eN (eS .leaf (eS eU .leaf)) (eN (eN eU .leaf) eU))
def c111 : CFunc := ⟨63,[.cell 4 (some 5),.tmp 5],.seq (.region [o 3 (.box 141 (.t 1)),o 4 (.newc 39 [.int .i64 (.ofNat 0),.int .i64 (.ofNat 0),.int .i64 (.ofNat 0),.int .i64 (.ofNat 0),.nilslice]),o 5 (.mv (.v (.bool false)))])
 (.seq (.seq (.region [o 7 (.fieldAddr 1 (.t 3)),o 8 (.load1 (.t 7)),o 9 (.bin .eql (.t 8) (k 0)),g 11 (.fieldAddr 0 (.t 3)) 9 true,g 12 (.load1 (.t 11)) 9 true,g 13 (.bin .eql (.t 12) (.v (.str 1 46))) 9 true,o 14 (.pick (.t 9) (.t 13) (.v (.bool false)))])
 (.cond (.t 14)
 (.seq (.region [o 16 (.call 193 [.t 0]),o 17 (.extract 0 (.t 16)),o 18 (.extract 1 (.t 16)),⟨none,.store 5 (.t 4) (.t 17),none,0⟩,o 5 (.mv (.t 18))])
 .ret)
 .skip))
 (.seq (.region [o 19 (.fieldAddr 0 (.t 3)),o 20 (.load1 (.t 19)),o 21 (.call 194 [.t 20,.v (.str 1 46)]),o 6 (.mv (.t 21))])
 (.seq (.seq (.region [o 22 (.fieldAddr 1 (.t 3)),o 23 (.load1 (.t 22)),o 24 (.bin .neq (.t 23) (k 0)),g 26 (.mv (.t 6)) 24 false,g 27 (.call 48 [.t 26]) 24 false,g 28 (.un .not (.t 27)) 24 false,o 29 (.pick (.t 24) (.v (.bool true)) (.t 28)),g 31 (.mv (.t 6)) 29 false,g 32 (.lenStr (.t 31)) 29 false,g 33 (.bin .gtr (.t 32) (k 998)) 29 false,o 34 (.pick (.t 29) (.v (.bool true)) (.t 33))])
 (.cond (.t 34)
 (.seq (.region [o 36 (.nilCheck (.t 0)),o 37 (.fieldAddr 27 (.t 36)),⟨none,.store 1 (.t 37) (.v (.bool true)),none,0⟩])
 (.seq (.region [o 38 (.build [.int .i64 (.ofNat 0),.int .i64 (.ofNat 0),.int .i64 (.ofNat 0),.int .i64 (.ofNat 0),.nilslice] []),⟨none,.store 5 (.t 4) (.t 38),none,0⟩,o 5 (.mv (.v (.bool false)))])
 .ret))
 .skip))
 (.seq (.seq (.draw [o 39 (.mv (.t 0)),⟨some 40,.nilCheck (.t 39),none,1⟩,⟨some 41,.fieldAddr 6 (.t 40),none,3⟩,⟨some 42,.fieldAddr 20 (.t 41),none,7⟩,⟨some 43,.load1 (.t 42),none,15⟩,⟨some 44,.lenSl (.t 43),none,31⟩,o 45 (.mv (.t 0)),⟨some 46,.nilCheck (.t 45),none,64⟩,⟨some 47,.fieldAddr 1 (.t 46),none,192⟩,⟨some 48,.load1 (.t 47),none,448⟩,⟨some 49,.bin .leq (.t 44) (.t 48),none,1023⟩])
 (.cond (.t 49)
 (.region [o 52 (.nilCheck (.t 0)),o 53 (.fieldAddr 6 (.t 52)),o 54 (.fieldAddr 20 (.t 53)),o 55 (.load1 (.t 54)),o 57 (.buildSlice 9 1 1 [.str 0 0] [(0,1,.t 6)]),o 58 (.append 9 1 16 (.t 55) (.t 57)),o 59 (.nilCheck (.t 0)),o 60 (.fieldAddr 6 (.t 59)),o 61 (.fieldAddr 20 (.t 60)),⟨none,.store 1 (.t 61) (.t 58),none,0⟩])
 .skip))
 (.seq (.region [o 62 (.build [.int .i64 (.ofNat 0),.int .i64 (.ofNat 0),.int .i64 (.ofNat 0),.int .i64 (.ofNat 0),.nilslice] []),⟨none,.store 5 (.t 4) (.t 62),none,0⟩,o 5 (.mv (.v (.bool false)))])
 .ret)))))⟩
def e111 : T Unit := (eN (eN (eN (eN eU .leaf) (eS .leaf (eN eU .leaf))) (eN .leaf (eN (eN eU .leaf) .leaf))) (eN (eN .leaf (eN eU .leaf)) (eN (eN .leaf (eN eU eU)) (eN .leaf eU))))
def c112 : CFunc := ⟨55,[.cell 4 (some 5)],.seq (.region [o 3 (.box 214 (.t 1)),o 4 (.newc 39 [.int .i64 (.ofNat 0),.int .i64 (.ofNat 0),.int .i64 (.ofNat 0),.int .i64 (.ofNat 0),.nilslice])])
 (.seq (.region [o 9 (.nilCheck (.t 0)),o 10 (.fieldAddr 3 (.t 9)),⟨none,.store 1 (.t 10) (k 1),none,0⟩])
 (.seq (.region [o 12 (.call 110 [.t 0])])
 (.seq (.region [o 14 (.nilCheck (.t 0)),o 15 (.fieldAddr 0 (.t 14)),o 16 (.load1 (.t 15)),o 17 (.buildSlice 9 1 1 [.str 0 0] [(0,1,.t 16)]),o 5 (.mv (.t 17))])
 (.seq (.seq (.region [o 18 (.fieldAddr 0 (.t 3)),o 19 (.load1 (.t 18)),o 20 (.bin .eql (.t 19) (.v (.str 4 1330399301)))])
 (.cond (.t 20)
 (.seq (.draw [o 22 (.mv (.t 0)),⟨some 23,.nilCheck (.t 22),none,1⟩,⟨some 24,.fieldAddr 4 (.t 23),none,3⟩,⟨some 25,.load1 (.t 24),none,7⟩,o 26 (.mv (.t 0)),⟨some 27,.nilCheck (.t 26),none,16⟩,⟨some 28,.fieldAddr 2 (.t 27),none,48⟩,⟨some 29,.load1 (.t 28),none,112⟩,⟨some 30,.bin .add (.t 25) (.t 29),none,255⟩,⟨some 31,.min [.t 30,k 253402300799],none,511⟩,⟨some 32,.call 195 [.t 31],none,1023⟩,⟨some 21,.mv (.t 32),none,2047⟩,⟨some 33,.extract 0 (.t 21),none,4095⟩,⟨some 34,.extract 1 (.t 21),none,4095⟩,⟨some 6,.mv (.t 33),none,8191⟩,⟨some 7,.mv (.t 34),none,32767⟩])
 (.draw [o 35 (.mv (.t 5)),o 36 (.mv (.t 0)),⟨some 37,.nilCheck (.t 36),none,2⟩,⟨some 38,.fieldAddr 1 (.t 37),none,6⟩,⟨some 39,.load1 (.t 38),none,14⟩,⟨some 40,.call 71 [.t 39],none,30⟩,⟨some 41,.bin .add (.v (.str 5 138602498387)) (.t 40),none,62⟩,o 42 (.mv (.t 0)),⟨some 43,.nilCheck (.t 42),none,128⟩,⟨some 44,.fieldAddr 2 (.t 43),none,384⟩,⟨some 45,.load1 (.t 44),none,896⟩,⟨some 46,.call 71 [.t 45],none,1982⟩,⟨some 47,.bin .add (.v (.str 14 654529616693581374450631160649030)) (.t 46),none,4030⟩,⟨some 48,.bin .add (.t 47) (.v (.str 1 32)),none,8126⟩,o 49 (.mv (.t 6)),⟨some 50,.bin .add (.t 48) (.t 49),none,32702⟩,⟨some 51,.buildSlice 9 1 8 [.str 0 0] [(0,1,.v (.str 10 336732148561499036600656)),(1,1,.v (.str 8 4993728158299144760)),(2,1,.v (.str 19 1856995843766869558578420604846646216901545541)),(3,1,.v (.str 3 5133124)),(4,1,.t 41),(5,1,.t 50),(6,1,.v (.str 9 1646539180951642850628)),(7,1,.v (.str 11 107992429273620279695594573))],none,65534⟩,⟨some 52,.append 9 1 16 (.t 35) (.t 51),none,131071⟩,⟨some 5,.mv (.t 52),none,262143⟩]))
 .skip))
 (.seq (.region [o 54 (.call 107 [k 250,.v (.str 0 0),.t 5]),⟨none,.store 5 (.t 4) (.t 54),none,0⟩])
 .ret)))))⟩
def e112 : T Unit := (eN (eN .leaf (eN .leaf eU)) (eN (eN (eS .leaf (eN eU .leaf)) .leaf) (eN eU .leaf)))
def c113 : CFunc := ⟨63,[.cell 4 (some 5)],.seq (.region [o 3 (.box 214 (.t 1)),o 4 (.newc 39 [.int .i64 (.ofNat 0),.int .i64 (.ofNat 0),.int .i64 (.ofNat 0),.int .i64 (.ofNat 0),.nilslice])])
 (.seq (.seq (.region [o 6 (.fieldAddr 4 (.t 3)),o 7 (.loadN 14 (.t 6)),o 5 (.newc 66 [.bool false,.bool false,.bool false,.bool false,.bool false,.int .i64 (.ofNat 0),.int .i64 (.ofNat 0),.int .i64 (.ofNat 0),.int .i64 (.ofNat 0),.int .i64 (.ofNat 0),.str 0 0,.str 0 0,.str 0 0,.str 0 0]),⟨none,.store 14 (.t 5) (.t 7),none,0⟩])
 (.block 0 (.seq (.draw [o 9 (.fieldAddr 5 (.t 5)),⟨some 10,.load1 (.t 9),none,1⟩,o 11 (.mv (.t 0)),⟨some 12,.nilCheck (.t 11),none,4⟩,⟨some 13,.fieldAddr 1 (.t 12),none,12⟩,⟨some 14,.load1 (.t 13),none,28⟩,⟨some 15,.bin .gtr (.t 10) (.t 14),none,63⟩,⟨some 8,.mv (.t 15),none,127⟩])
 (.cond (.t 8)
 (.seq (.region [o 16 (.buildSlice 9 1 1 [.str 0 0] [(0,1,.v (.str 4 1702521203))]),o 17 (.call 107 [k 552,.v (.str 5 224113405493),.t 16]),⟨none,.store 5 (.t 4) (.t 17),none,0⟩])
 .ret)
 (.seq (.draw [o 19 (.fieldAddr 6 (.t 5)),⟨some 20,.load1 (.t 19),none,1⟩,o 21 (.mv (.t 0)),⟨some 22,.nilCheck (.t 21),none,4⟩,⟨some 23,.fieldAddr 2 (.t 22),none,12⟩,⟨some 24,.load1 (.t 23),none,28⟩,⟨some 25,.bin .gtr (.t 20) (.t 24),none,63⟩,⟨some 26,.mv (.t 25),none,127⟩,⟨some 27,.fieldAddr 7 (.t 5),some (.t 26,false),255⟩,⟨some 28,.load1 (.t 27),some (.t 26,false),511⟩,⟨some 29,.mv (.t 0),some (.t 26,false),255⟩,⟨some 30,.nilCheck (.t 29),some (.t 26,false),1279⟩,⟨some 31,.fieldAddr 4 (.t 30),some (.t 26,false),3327⟩,⟨some 32,.load1 (.t 31),some (.t 26,false),7423⟩,⟨some 33,.mv (.t 0),some (.t 26,false),255⟩,⟨some 34,.nilCheck (.t 33),some (.t 26,false),16639⟩,⟨some 35,.fieldAddr 2 (.t 34),some (.t 26,false),49407⟩,⟨some 36,.load1 (.t 35),some (.t 26,false),114943⟩,⟨some 37,.bin .add (.t 32) (.t 36),some (.t 26,false),261375⟩,⟨some 38,.bin .gtr (.t 28) (.t 37),some (.t 26,false),524287⟩,⟨some 39,.pick (.t 26) (.v (.bool true)) (.t 38),none,1048575⟩,⟨some 18,.mv (.t 39),none,2097151⟩])
 (.cond (.t 18)
 (.seq (.region [o 40 (.buildSlice 9 1 1 [.str 0 0] [(0,1,.v (.str 4 1684828008))]),o 41 (.call 107 [k 501,.v (.str 5 224113536565),.t 40]),⟨none,.store 5 (.t 4) (.t 41),none,0⟩])
 .ret)
 (.seq (.region [o 44 (.nilCheck (.t 0)),o 45 (.fieldAddr 5 (.t 44)),o 46 (.load1 (.t 45)),o 47 (.un .not (.t 46)),o 42 (.mv (.t 47))])
 (.cond (.t 42)
 (.seq (.region [o 48 (.buildSlice 9 1 1 [.str 0 0] [(0,1,.v (.str 4 1836019570))]),o 49 (.call 107 [k 452,.v (.str 5 211228503604),.t 48]),⟨none,.store 5 (.t 4) (.t 49),none,0⟩])
 .ret)
 .skip))))))))
 (.seq (.region [o 51 (.fieldAddr 2 (.t 3)),o 52 (.loadN 2 (.t 51)),o 53 (.fieldAddr 4 (.t 3)),o 54 (.loadN 14 (.t 53)),o 55 (.build [.int .i64 (.ofNat 0),.int .i64 (.ofNat 0),.int .i64 (.ofNat 0),.str 0 0,.str 0 0,.bool false,.bool false,.bool false,.bool false,.bool false,.int .i64 (.ofNat 0),.int .i64 (.ofNat 0),.int .i64 (.ofNat 0),.int .i64 (.ofNat 0),.int .i64 (.ofNat 0),.str 0 0,.str 0 0,.str 0 0,.str 0 0,.nilslice,.nilslice] [(3,2,.t 52),(5,14,.t 54)]),o 56 (.nilCheck (.t 0)),o 57 (.fieldAddr 6 (.t 56)),⟨none,.store 21 (.t 57) (.t 55),none,0⟩])
 (.seq (.region [o 59 (.nilCheck (.t 0)),o 60 (.fieldAddr 3 (.t 59)),⟨none,.store 1 (.t 60) (k 2),none,0⟩])
 (.seq (.region [o 61 (.buildSlice 9 1 1 [.str 0 0] [(0,1,.v (.str 6 125779802219891))]),o 62 (.call 107 [k 250,.v (.str 5 206933405234),.t 61]),⟨none,.store 5 (.t 4) (.t 62),none,0⟩])
 .ret))))⟩
def e113 : T Unit := (eN (eN (eN .leaf (eN (eN eU .leaf) (eN eU .leaf))) .leaf) (eN .leaf (eN (eN (eN .leaf eU) .leaf) .leaf)))
def c114 : CFunc := ⟨35,[.cell 4 (some 5)],.seq (.region [o 3 (.box 214 (.t 1)),o 4 (.newc 39 [.int .i64 (.ofNat 0),.int .i64 (.ofNat 0),.int .i64 (.ofNat 0),.int .i64 (.ofNat 0),.nilslice])])
 (.seq (.seq (.region [o 6 (.nilCheck (.t 0)),o 7 (.fieldAddr 6 (.t 6)),o 8 (.fieldAddr 19 (.t 7)),o 9 (.load1 (.t 8)),o 10 (.lenSl (.t 9)),o 11 (.bin .geq (.t 10) (k 8))])
 (.cond (.t 11)
 (.seq (.region [o 12 (.buildSlice 9 1 1 [.str 0 0] [(0,1,.v (.str 4 2037277037))]),o 13 (.call 107 [k 452,.v (.str 5 219818569268),.t 12]),⟨none,.store 5 (.t 4) (.t 13),none,0⟩])
 .ret)
 .skip))
 (.seq (.draw [o 14 (.mv (.t 0)),o 15 (.mv (.t 0)),⟨some 16,.nilCheck (.t 15),none,2⟩,⟨some 17,.fieldAddr 6 (.t 16),none,6⟩,⟨some 18,.fieldAddr 19 (.t 17),none,14⟩,⟨some 19,.load1 (.t 18),none,30⟩,o 20 (.fieldAddr 2 (.t 3)),⟨some 21,.loadN 2 (.t 20),none,64⟩,o 22 (.fieldAddr 18 (.t 3)),⟨some 23,.loadN 3 (.t 22),none,256⟩,⟨some 24,.build [.str 0 0,.str 0 0,.str 0 0,.str 0 0,.str 0 0] [(0,2,.t 21),(2,3,.t 23)],none,960⟩,⟨some 25,.buildSlice 187 5 1 [.str 0 0,.str 0 0,.str 0 0,.str 0 0,.str 0 0] [(0,5,.t 24)],none,1984⟩,⟨some 26,.append 187 5 80 (.t 19) (.t 25),none,4094⟩,⟨some 27,.nilCheck (.t 14),none,8191⟩,⟨some 28,.fieldAddr 6 (.t 27),none,16383⟩,⟨some 29,.fieldAddr 19 (.t 28),none,32767⟩,⟨none,.store 1 (.t 29) (.t 26),none,65535⟩])
 (.seq (.region [o 31 (.nilCheck (.t 0)),o 32 (.fieldAddr 3 (.t 31)),⟨none,.store 1 (.t 32) (k 3),none,0⟩])
 (.seq (.region [o 33 (.buildSlice 9 1 1 [.str 0 0] [(0,1,.v (.str 9 2147777192798653212018))]),o 34 (.call 107 [k 250,.v (.str 5 228408241714),.t 33]),⟨none,.store 5 (.t 4) (.t 34),none,0⟩])
 .ret))))⟩
def e114 : T Unit := (eN (eN (eN (eN eU .leaf) .leaf) .leaf) (eN eU .leaf))
def c115 : CFunc := ⟨10,[.cell 4 (some 5)],.seq (.region [o 3 (.box 214 (.t 1)),o 4 (.newc 39 [.int .i64 (.ofNat 0),.int .i64 (.ofNat 0),.int .i64 (.ofNat 0),.int .i64 (.ofNat 0),.nilslice])])
 (.seq (.region [o 6 (.nilCheck (.t 0)),o 7 (.fieldAddr 3 (.t 6)),⟨none,.store 1 (.t 7) (k 4),none,0⟩])
 (.seq (.region [o 8 (.buildSlice 9 1 1 [.str 0 0] [(0,1,.v (.str 2 28519))]),o 9 (.call 107 [k 354,.v (.str 0 0),.t 8]),⟨none,.store 5 (.t 4) (.t 9),none,0⟩])
 .ret))⟩
def e115 : T Unit := (eN .leaf (eN eU .leaf))
def c117 : CFunc := ⟨16,[.cell 4 (some 5)],.seq (.region [o 3 (.box 214 (.t 1)),o 4 (.newc 39 [.int .i64 (.ofNat 0),.int .i64 (.ofNat 0),.int .i64 (.ofNat 0),.int .i64 (.ofNat 0),.nilslice])])
 (.seq (.region [o 6 (.call 110 [.t 0])])
 (.seq (.region [o 8 (.nilCheck (.t 0)),o 9 (.fieldAddr 3 (.t 8)),⟨none,.store 1 (.t 9) (k 5),none,0⟩])
 (.seq (.region [o 11 (.nilCheck (.t 0)),o 12 (.fieldAddr 0 (.t 11)),o 13 (.load1 (.t 12)),o 14 (.buildSlice 9 1 1 [.str 0 0] [(0,1,.t 13)]),o 15 (.call 107 [k 221,.v (.str 5 206933339698),.t 14]),⟨none,.store 5 (.t 4) (.t 15),none,0⟩])
 .ret)))⟩
def e117 : T Unit := (eN (eN (eN .leaf eU) .leaf) (eN eU (eN .leaf eU)))
def c121 : CFunc := ⟨14,[.tmp 2],.seq (.region [o 2 (.mv (.v (.str 0 0)))])
 (.seq (.region [o 8 (.call 196 [.t 0,.v (.str 1 32)]),o 9 (.extract 0 (.t 8)),o 10 (.extract 1 (.t 8)),o 11 (.extract 2 (.t 8)),o 3 (.mv (.t 9))])
 (.seq (.region [o 13 (.call 197 [.t 3]),o 2 (.mv (.t 13))])
 .ret))⟩
def e121 : T Unit := (eN (eN eU (eS eU .leaf)) (eN eU (eN .leaf eU)))
def c122 : CFunc := ⟨37,[.tmp 4],.seq (.region [o 4 (.mv (.v (.str 0 0)))])
 (.seq (.seq (.region [o 8 (.bin .eql (.t 0) (.v (.str 0 0))),g 10 (.mv (.t 1)) 8 false,g 11 (.bin .eql (.t 10) (.v (.str 0 0))) 8 false,o 12 (.pick (.t 8) (.v (.bool true)) (.t 11))])
 (.cond (.t 12)
 (.seq (.region [o 4 (.mv (.t 0))])
 .ret)
 .skip))
 (.seq (.seq (.region [o 15 (.lenStr (.t 1)),o 16 (.bin .eql (.t 15) (k 1)),g 18 (.mv (.t 1)) 16 true,g 19 (.idxStr (.t 18) (k 0)) 16 true,g 20 (.bin .lss (.t 19) (.v (.int .u8 (.ofNat 128)))) 16 true,o 21 (.pick (.t 16) (.t 20) (.v (.bool false)))])
 (.cond (.t 21)
 (.seq (.region [o 24 (.idxStr (.t 1) (k 0)),o 25 (.call 198 [.t 0,.t 24]),o 4 (.mv (.t 25))])
 .ret)
 .skip))
 (.seq (.seq (.region [o 28 (.call 199 [.t 1]),o 29 (.extract 0 (.t 28)),o 30 (.extract 1 (.t 28)),o 5 (.newc 292 [.bool false,.bool false,.bool false,.bool false,.bool false,.bool false,.bool false,.bool false,.bool false,.bool false,.bool false,.bool false,.bool false,.bool false,.bool false,.bool false,.bool false,.bool false,.bool false,.bool false,.bool false,.bool false,.bool false,.bool false,.bool false,.bool false,.bool false,.bool false,.bool false,.bool false,.bool false,.bool false,.bool false,.bool false,.bool false,.bool false,.bool false,.bool false,.bool false,.bool false,.bool false,.bool false,.bool false,.bool false,.bool false,.bool false,.bool false,.bool false,.bool false,.bool false,.bool false,.bool false,.bool false,.bool false,.bool false,.bool false,.bool false,.bool false,.bool false,.bool false,.bool false,.bool false,.bool false,.bool false,.bool false,.bool false,.bool false,.bool false,.bool false,.bool false,.bool false,.bool false,.bool false,.bool false,.bool false,.bool false,.bool false,.bool false,.bool false,.bool false,.bool false,.bool false,.bool false,.bool false,.bool false,.bool false,.bool false,.bool false,.bool false,.bool false,.bool false,.bool false,.bool false,.bool false,.bool false,.bool false,.bool false,.bool false,.bool false,.bool false,.bool false,.bool false,.bool false,.bool false,.bool false,.bool false,.bool false,.bool false,.bool false,.bool false,.bool false,.bool false,.bool false,.bool false,.bool false,.bool false,.bool false,.bool false,.bool false,.bool false,.bool false,.bool false,.bool false,.bool false,.bool false,.bool false,.bool false,.bool false,.bool false,.bool false,.bool false,.bool false,.bool false,.bool false,.bool false,.bool false,.bool false,.bool false,.bool false,.bool false,.bool false,.bool false,.bool false,.bool false,.bool false,.bool false,.bool false,.bool false,.bool false,.bool false,.bool false,.bool false,.bool false,.bool false,.bool false,.bool false,.bool false,.bool false,.bool false,.bool false,.bool false,.bool false,.bool false,.bool false,.bool false,.bool false,.bool false,.bool false,.bool false,.bool false,.bool false,.bool false,.bool false,.bool false,.bool false,.bool false,.bool false,.bool false,.bool false,.bool false,.bool false,.bool false,.bool false,.bool false,.bool false,.bool false,.bool false,.bool false,.bool false,.bool false,.bool false,.bool false,.bool false,.bool false,.bool false,.bool false,.bool false,.bool false,.bool false,.bool false,.bool false,.bool false,.bool false,.bool false,.bool false,.bool false,.bool false,.bool false,.bool false,.bool false,.bool false,.bool false,.bool false,.bool false,.bool false,.bool false,.bool false,.bool false,.bool false,.bool false,.bool false,.bool false,.bool false,.bool false,.bool false,.bool false,.bool false,.bool false,.bool false,.bool false,.bool false,.bool false,.bool false,.bool false,.bool false,.bool false,.bool false,.bool false,.bool false,.bool false,.bool false,.bool false,.bool false,.bool false,.bool false,.bool false,.bool false,.bool false,.bool false,.bool false,.bool false,.bool false,.bool false,.bool false,.bool false,.bool false]),⟨none,.store 256 (.t 5) (.t 29),none,0⟩,o 6 (.mv (.t 30))])
 (.seq (.region [o 31 (.mv (.t 6))])
 (.cond (.t 31)
 (.seq (.region [o 33 (.call 200 [.t 0,.t 5]),o 4 (.mv (.t 33))])
 .ret)
 .skip)))
 (.seq (.region [o 36 (.call 201 [.t 0,.t 1]),o 4 (.mv (.t 36))])
 .ret))))⟩
def e122 : T Unit := (eN (eN (eN (eS .leaf eU) (eN eU (eN .leaf eU))) (eN .leaf (eN .leaf (eN .leaf eU)))) (eN (eN eU (eS .leaf eU)) (eN (eN eU (eN .leaf eU)) (eS eU .leaf))))
def c123 : CFunc := ⟨44,[.cell 2 (some 21),.tmp 3],.seq (.region [o 2 (.newc 214 [.str 0 0,.str 0 0,.str 0 0,.str 0 0,.bool false,.bool false,.bool false,.bool false,.bool false,.int .i64 (.ofNat 0),.int .i64 (.ofNat 0),.int .i64 (.ofNat 0),.int .i64 (.ofNat 0),.int .i64 (.ofNat 0),.str 0 0,.str 0 0,.str 0 0,.str 0 0,.str 0 0,.str 0 0,.str 0 0]),o 3 (.mv (k 0))])
 (.seq (.region [o 13 (.call 122 [.t 0,.v (.str 1 32)]),o 0 (.mv (.t 13))])
 (.seq (.region [o 14 (.mkMap),⟨none,.mapUpd true (.t 14) (.v (.str 4 1330398536)) (.v (.func (.func 202) [] [])),none,0⟩,⟨none,.mapUpd true (.t 14) (.v (.str 4 1330399301)) (.v (.func (.func 202) [] [])),none,0⟩,⟨none,.mapUpd true (.t 14) (.v (.str 4 1279869261)) (.v (.func (.func 203) [] [])),none,0⟩,⟨none,.mapUpd true (.t 14) (.v (.str 4 1414546258)) (.v (.func (.func 204) [] [])),none,0⟩,⟨none,.mapUpd true (.t 14) (.v (.str 4 1096040772)) (.v (.func (.func 205) [] [])),none,0⟩,⟨none,.mapUpd true (.t 14) (.v (.str 4 1413829458)) (.v (.func (.func 205) [] [])),none,0⟩,⟨none,.mapUpd true (.t 14) (.v (.str 4 1414092113)) (.v (.func (.func 205) [] [])),none,0⟩,⟨none,.mapUpd true (.t 14) (.v (.str 4 1347374926)) (.v (.func (.func 206) [] [])),none,0⟩,⟨none,.mapUpd true (.t 14) (.v (.str 4 1497780822)) (.v (.func (.func 206) [] [])),none,0⟩,⟨none,.mapUpd true (.t 14) (.v (.str 4 1347175752)) (.v (.func (.func 206) [] [])),none,0⟩,o 4 (.mv (.t 14))])
 (.seq (.region [o 17 (.call 121 [.t 0]),o 18 (.build [.str 0 0,.str 0 0,.str 0 0,.str 0 0,.bool false,.bool false,.bool false,.bool false,.bool false,.int .i64 (.ofNat 0),.int .i64 (.ofNat 0),.int .i64 (.ofNat 0),.int .i64 (.ofNat 0),.int .i64 (.ofNat 0),.str 0 0,.str 0 0,.str 0 0,.str 0 0,.str 0 0,.str 0 0,.str 0 0] [(0,1,.t 17)]),o 5 (.newc 214 [.str 0 0,.str 0 0,.str 0 0,.str 0 0,.bool false,.bool false,.bool false,.bool false,.bool false,.int .i64 (.ofNat 0),.int .i64 (.ofNat 0),.int .i64 (.ofNat 0),.int .i64 (.ofNat 0),.int .i64 (.ofNat 0),.str 0 0,.str 0 0,.str 0 0,.str 0 0,.str 0 0,.str 0 0,.str 0 0]),⟨none,.store 21 (.t 5) (.t 18),none,0⟩])
 (.seq (.region [o 21 (.fieldAddr 0 (.t 5)),o 22 (.load1 (.t 21)),o 23 (.lookup true .nilFunc true (.t 4) (.t 22)),o 24 (.extract 0 (.t 23)),o 25 (.extract 1 (.t 23)),o 6 (.mv (.t 24)),o 7 (.mv (.t 25))])
 (.seq (.seq (.region [o 27 (.un .not (.t 7))])
 (.cond (.t 27)
 (.seq (.region [o 28 (.build [.str 0 0,.str 0 0,.str 0 0,.str 0 0,.bool false,.bool false,.bool false,.bool false,.bool false,.int .i64 (.ofNat 0),.int .i64 (.ofNat 0),.int .i64 (.ofNat 0),.int .i64 (.ofNat 0),.int .i64 (.ofNat 0),.str 0 0,.str 0 0,.str 0 0,.str 0 0,.str 0 0,.str 0 0,.str 0 0] []),⟨none,.store 21 (.t 2) (.t 28),none,0⟩,o 3 (.mv (k 10))])
 .ret)
 .skip))
 (.seq (.region [o 31 (.call 196 [.t 0,.v (.str 1 32)]),o 32 (.extract 0 (.t 31)),o 33 (.extract 1 (.t 31)),o 34 (.extract 2 (.t 31)),o 9 (.mv (.t 33)),o 10 (.mv (.t 34))])
 (.seq (.seq (.region [o 38 (.callV (.t 6) [.t 5,.t 9,.t 10]),o 11 (.mv (.t 38))])
 (.seq (.region [o 40 (.bin .neq (.t 11) (k 0))])
 (.cond (.t 40)
 (.seq (.region [o 41 (.build [.str 0 0,.str 0 0,.str 0 0,.str 0 0,.bool false,.bool false,.bool false,.bool false,.bool false,.int .i64 (.ofNat 0),.int .i64 (.ofNat 0),.int .i64 (.ofNat 0),.int .i64 (.ofNat 0),.int .i64 (.ofNat 0),.str 0 0,.str 0 0,.str 0 0,.str 0 0,.str 0 0,.str 0 0,.str 0 0] []),⟨none,.store 21 (.t 2) (.t 41),none,0⟩,o 3 (.mv (.t 11))])
 .ret)
 .skip)))
 (.seq (.region [o 43 (.loadN 21 (.t 5)),⟨none,.store 21 (.t 2) (.t 43),none,0⟩,o 3 (.mv (k 0))])
 .ret))))))))⟩
def e123 : T Unit := (eN (eN (eN (eN eU .leaf) (eN (eS .leaf eU) .leaf)) (eN (eS .leaf (eS .leaf eU)) (eS .leaf eU))) (eN (eN (eN eU (eN .leaf eU)) .leaf) (eN (eN .leaf (eS .leaf eU)) (eN (eN .leaf eU) eU))))
def c124 : CFunc := ⟨9,[.tmp 4],.seq (.region [o 4 (.mv (.v (.bool false)))])
 (.seq (.region [o 7 (.call 207 [.t 0,.t 1]),o 8 (.bin .geq (.t 7) (k 0)),o 4 (.mv (.t 8))])
 .ret)⟩
def e124 : T Unit := (eN (eN eU .leaf) (eN eU .leaf))
def c125 : CFunc := ⟨2,[.tmp 0],.seq (.region [o 0 (.mv (.v .nilslice))])
 (.seq (.region [o 1 (.buildSlice 9 1 10 [.str 0 0] [(0,1,.v (.str 4 1330398536)),(1,1,.v (.str 4 1330399301)),(2,1,.v (.str 4 1279869261)),(3,1,.v (.str 4 1414546258)),(4,1,.v (.str 4 1096040772)),(5,1,.v (.str 4 1413829458)),(6,1,.v (.str 4 1414092113)),(7,1,.v (.str 4 1347374926)),(8,1,.v (.str 4 1497780822)),(9,1,.v (.str 4 1347175752))]),o 0 (.mv (.t 1))])
 .ret)⟩
def e125 : T Unit := .leaf
def c126 : CFunc := ⟨27,[.tmp 4],.seq (.region [o 4 (.mv (.v (.bool false)))])
 (.seq (.seq (.region [o 5 (.mv (.t 1))])
 (.block 0 (.seq (.region [o 7 (.bin .eql (.t 5) (.v (.str 4 1279869261))),o 6 (.mv (.t 7))])
 (.cond (.t 6)
 (.seq (.region [o 9 (.nilCheck (.t 0)),o 10 (.fieldAddr 3 (.t 9)),o 11 (.load1 (.t 10)),o 12 (.bin .eql (.t 11) (k 1)),o 4 (.mv (.t 12))])
 .ret)
 (.seq (.region [o 14 (.bin .eql (.t 5) (.v (.str 4 1414546258))),o 13 (.mv (.t 14))])
 (.cond (.t 13)
 (.seq (.region [o 16 (.nilCheck (.t 0)),o 17 (.fieldAddr 3 (.t 16)),o 18 (.load1 (.t 17)),o 19 (.bin .eql (.t 18) (k 2)),g 21 (.mv (.t 0)) 19 false,g 22 (.nilCheck (.t 21)) 19 false,g 23 (.fieldAddr 3 (.t 22)) 19 false,g 24 (.load1 (.t 23)) 19 false,g 25 (.bin .eql (.t 24) (k 3)) 19 false,o 26 (.pick (.t 19) (.v (.bool true)) (.t 25)),o 4 (.mv (.t 26))])
 .ret)
 .skip))))))
 (.seq (.region [o 4 (.mv (.v (.bool true)))])
 .ret))⟩
def e126 : T Unit := (eN (eN .leaf (eN (eN .leaf eU) eU)) (eN .leaf (eN .leaf (eN .leaf eU))))
def c127 : CFunc := ⟨9,[.tmp 2],.seq (.region [o 2 (.mv (k 0))])
 (.seq (.region [o 4 (.call 46 [.t 0]),o 5 (.buildSlice 3 1 1 [.int .i64 (.ofNat 0)] [(0,1,k 0)]),o 6 (.append 3 1 8 (.t 4) (.t 5)),o 7 (.call 208 [.t 6]),o 8 (.bin .add (.t 7) (k 1)),o 2 (.mv (.t 8))])
 .ret)⟩
def e127 : T Unit := (eN .leaf (eN .leaf eU))
def c128 : CFunc := ⟨73,[.tmp 4],.seq (.region [o 3 (.box 69 (.t 1)),o 4 (.mv (k 0))])
 (.seq (.region [o 12 (.loadN 21 (.t 3)),o 13 (.call 209 [.t 12]),o 14 (.extract 0 (.t 13)),o 15 (.extract 1 (.t 13)),o 5 (.mv (.t 14)),o 6 (.mv (.t 15))])
 (.seq (.draw [o 17 (.mv (.t 0)),⟨some 18,.nilCheck (.t 17),none,1⟩,⟨some 19,.fieldAddr 1 (.t 18),none,3⟩,⟨some 20,.load1 (.t 19),none,7⟩,o 21 (.fieldAddr 0 (.t 3)),⟨some 22,.load1 (.t 21),none,16⟩,⟨some 23,.lookup false (.agg [.int .i64 (.ofNat 0),.int .i64 (.ofNat 0),.int .i64 (.ofNat 0),.str 0 0,.str 0 0,.bool false,.bool false,.bool false,.bool false,.bool false,.int .i64 (.ofNat 0),.int .i64 (.ofNat 0),.int .i64 (.ofNat 0),.int .i64 (.ofNat 0),.int .i64 (.ofNat 0),.str 0 0,.str 0 0,.str 0 0,.str 0 0,.nilslice,.nilslice,.nilslice]) true (.t 20) (.t 22),none,63⟩,⟨some 16,.mv (.t 23),none,127⟩,⟨some 24,.extract 0 (.t 16),none,255⟩,⟨some 25,.extract 1 (.t 16),none,255⟩,o 7 (.newc 179 [.int .i64 (.ofNat 0),.int .i64 (.ofNat 0),.int .i64 (.ofNat 0),.str 0 0,.str 0 0,.bool false,.bool false,.bool false,.bool false,.bool false,.int .i64 (.ofNat 0),.int .i64 (.ofNat 0),.int .i64 (.ofNat 0),.int .i64 (.ofNat 0),.int .i64 (.ofNat 0),.str 0 0,.str 0 0,.str 0 0,.str 0 0,.nilslice,.nilslice,.nilslice]),⟨none,.store 22 (.t 7) (.t 24),none,1535⟩,⟨some 8,.mv (.t 25),none,4095⟩])
 (.seq (.block 0 (.seq (.region [o 28 (.bin .neq (.t 6) (k 0)),o 26 (.mv (.t 28))])
 (.cond (.t 26)
 (.seq (.region [o 4 (.mv (.t 6))])
 .ret)
 (.seq (.region [o 30 (.mv (.t 8))])
 (.cond (.t 30)
 (.seq (.region [o 4 (.mv (k 5))])
 .ret)
 (.seq (.region [o 34 (.nilCheck (.t 0)),o 35 (.fieldAddr 1 (.t 34)),o 36 (.load1 (.t 35)),o 37 (.lenMap (.t 36)),o 38 (.bin .geq (.t 37) (k 32)),o 32 (.mv (.t 38))])
 (.cond (.t 32)
 (.seq (.region [o 4 (.mv (k 6))])
 .ret)
 .skip)))))))
 (.seq (.region [o 41 (.buildSlice 9 1 1 [.str 0 0] [(0,1,.t 5)]),o 42 (.call 70 [.t 41]),o 43 (.extract 0 (.t 42)),o 44 (.extract 1 (.t 42)),o 9 (.mv (.t 43))])
 (.seq (.draw [o 45 (.mv (.t 0)),o 46 (.fieldAddr 0 (.t 3)),⟨some 47,.load1 (.t 46),none,2⟩,⟨some 48,.call 181 [.v (.str 1 116),.t 47],none,6⟩,o 49 (.fieldAddr 0 (.t 3)),⟨some 50,.load1 (.t 49),none,16⟩,⟨some 51,.call 181 [.v (.str 1 109),.t 50],none,62⟩,o 52 (.mv (.t 9)),⟨some 53,.call 210 [.t 45,.t 48,.t 51,.t 52],none,255⟩,⟨some 6,.mv (.t 53),none,511⟩])
 (.seq (.seq (.region [o 55 (.bin .eql (.t 6) (k 0))])
 (.cond (.t 55)
 (.seq (.draw [o 56 (.fieldAddr 19 (.t 3)),⟨some 57,.load1 (.t 56),none,1⟩,⟨some 58,.call 96 [.t 57],none,3⟩,o 59 (.fieldAddr 20 (.t 3)),⟨some 60,.load1 (.t 59),none,8⟩,⟨some 61,.call 97 [.t 60],none,31⟩,⟨some 62,.fieldAddr 19 (.t 3),none,31⟩,⟨none,.store 1 (.t 62) (.t 58),none,127⟩,⟨some 63,.fieldAddr 20 (.t 3),none,255⟩,⟨none,.store 1 (.t 63) (.t 61),none,511⟩])
 (.draw [o 64 (.mv (.t 0)),⟨some 65,.nilCheck (.t 64),none,1⟩,⟨some 66,.fieldAddr 1 (.t 65),none,3⟩,⟨some 67,.load1 (.t 66),none,7⟩,o 68 (.fieldAddr 0 (.t 3)),⟨some 69,.load1 (.t 68),none,16⟩,o 70 (.loadN 21 (.t 3)),⟨some 71,.call 211 [.t 70],none,64⟩,⟨none,.mapUpd false (.t 67) (.t 69) (.t 71),none,255⟩]))
 .skip))
 (.seq (.region [o 4 (.mv (.t 6))])
 .ret)))))))⟩
def e128 : T Unit := (eN (eN (eN (eN .leaf (eN eU .leaf)) eU) (eN .leaf (eN (eN .leaf (eS .leaf eU)) .leaf))) (eN (eN (eN eU .leaf) (eN .leaf (eN .leaf eU))) (eN (eS eU .leaf) (eN (eN .leaf eU) (eN .leaf eU)))))
def c129 : CFunc := ⟨43,[.cell 6 (some 5),.tmp 7],.seq (.region [o 6 (.newc 39 [.int .i64 (.ofNat 0),.int .i64 (.ofNat 0),.int .i64 (.ofNat 0),.int .i64 (.ofNat 0),.nilslice]),o 7 (.mv (k 0))])
 (.seq (.region [o 15 (.call 97 [.t 2]),o 16 (.build [.int .i64 (.ofNat 0),.int .i64 (.ofNat 0),.int .i64 (.ofNat 0),.int .i64 (.ofNat 0),.nilslice] [(0,1,.t 0),(4,1,.t 15)]),o 8 (.newc 39 [.int .i64 (.ofNat 0),.int .i64 (.ofNat 0),.int .i64 (.ofNat 0),.int .i64 (.ofNat 0),.nilslice]),⟨none,.store 5 (.t 8) (.t 16),none,0⟩])
 (.seq (.seq (.region [o 18 (.bin .neq (.t 1) (.v (.str 0 0)))])
 (.cond (.t 18)
 (.seq (.region [o 22 (.bin .add (.t 1) (.v (.str 1 32))),o 23 (.call 212 [.t 0,.t 22]),o 24 (.extract 0 (.t 23)),o 25 (.extract 1 (.t 23)),o 26 (.extract 2 (.t 23)),o 9 (.newc 37 [.int .i64 (.ofNat 0),.int .i64 (.ofNat 0),.int .i64 (.ofNat 0)]),⟨none,.store 3 (.t 9) (.t 24),none,0⟩,o 10 (.mv (.t 25)),o 11 (.mv (.t 26))])
 (.seq (.seq (.region [o 28 (.un .not (.t 11)),g 30 (.mv (.t 10)) 28 false,g 31 (.bin .neq (.t 30) (.v (.str 0 0))) 28 false,o 32 (.pick (.t 28) (.v (.bool true)) (.t 31))])
 (.cond (.t 32)
 (.seq (.region [o 33 (.build [.int .i64 (.ofNat 0),.int .i64 (.ofNat 0),.int .i64 (.ofNat 0),.int .i64 (.ofNat 0),.nilslice] []),⟨none,.store 5 (.t 6) (.t 33),none,0⟩,o 7 (.mv (k 2))])
 .ret)
 .skip))
 (.region [o 34 (.loadN 3 (.t 9)),o 35 (.fieldAddr 1 (.t 8)),⟨none,.store 3 (.t 35) (.t 34),none,0⟩])))
 .skip))
 (.seq (.seq (.region [o 36 (.loadN 5 (.t 8)),o 37 (.call 152 [.t 36]),o 12 (.mv (.t 37))])
 (.seq (.region [o 39 (.bin .neq (.t 12) (k 0))])
 (.cond (.t 39)
 (.seq (.region [o 40 (.build [.int .i64 (.ofNat 0),.int .i64 (.ofNat 0),.int .i64 (.ofNat 0),.int .i64 (.ofNat 0),.nilslice] []),⟨none,.store 5 (.t 6) (.t 40),none,0⟩,o 7 (.mv (.t 12))])
 .ret)
 .skip)))
 (.seq (.region [o 42 (.loadN 5 (.t 8)),⟨none,.store 5 (.t 6) (.t 42),none,0⟩,o 7 (.mv (k 0))])
 .ret))))⟩
def e129 : T Unit := (eN (eN (eN (eS .leaf (eN .leaf eU)) .leaf) (eN (eN .leaf eU) .leaf)) (eN (eN (eS eU eU) (eN (eN .leaf eU) eU)) (eN (eN eU eU) .leaf)))
def c130 : CFunc := ⟨3,[.cell 0 (some 5)],.seq (.region [o 0 (.newc 39 [.int .i64 (.ofNat 0),.int .i64 (.ofNat 0),.int .i64 (.ofNat 0),.int .i64 (.ofNat 0),.nilslice])])
 (.seq (.region [o 1 (.buildSlice 9 1 1 [.str 0 0] [(0,1,.v (.str 5 474147938676))]),o 2 (.call 107 [k 250,.v (.str 5 206933339698),.t 1]),⟨none,.store 5 (.t 0) (.t 2),none,0⟩])
 .ret)⟩
def e130 : T Unit := .leaf
def c132 : CFunc := ⟨25,[.tmp 4],.seq (.region [o 4 (.mv (.v (.str 0 0)))])
 (.seq (.region [o 8 (.mkSlice 5 1 1 [.int .u8 (.ofNat 0)] (.t 1) (.t 1)),o 5 (.mv (.t 8))])
 (.seq (.seq (.region [o 10 (.lenSl (.t 5)),o 11 (.mv (k 0))])
 (.block 0 (.loop (.seq (.region [o 12 (.bin .lss (.t 11) (.t 10))])
 (.seq (.cond (.t 12)
 .skip
 (.exit 0))
 (.seq (.block 1 (.seq (.region [o 6 (.mv (.t 11))])
 (.region [o 18 (.bin .mul (k 8) (.t 6)),o 19 (.bin .shr (.t 0) (.t 18)),o 20 (.convInt .u8 (.t 19)),o 21 (.idxAddrSl 1 (.t 5) (.t 6)),⟨none,.store 1 (.t 21) (.t 20),none,0⟩])))
 (.region [o 22 (.bin .add (.t 11) (k 1)),o 11 (.mv (.t 22))])))))))
 (.seq (.region [o 24 (.strOfBytes (.t 5)),o 4 (.mv (.t 24))])
 .ret)))⟩
def e132 : T Unit := (eN (eN (eN eU .leaf) (eN .leaf (eN .leaf eU))) (eN (eN eU (eS .leaf eU)) (eN .leaf (eS eU eU))))
def c133 : CFunc := ⟨25,[.tmp 4],.seq (.region [o 4 (.mv (.v (.str 0 0)))])
 (.seq (.region [o 8 (.mkSlice 5 1 1 [.int .u8 (.ofNat 0)] (.t 1) (.t 1)),o 5 (.mv (.t 8))])
 (.seq (.seq (.region [o 10 (.lenSl (.t 5)),o 11 (.mv (k 0))])
 (.block 0 (.loop (.seq (.region [o 12 (.bin .lss (.t 11) (.t 10))])
 (.seq (.cond (.t 12)
 .skip
 (.exit 0))
 (.seq (.block 1 (.seq (.region [o 6 (.mv (.t 11))])
 (.region [o 18 (.bin .mul (k 8) (.t 6)),o 19 (.bin .shr (.t 0) (.t 18)),o 20 (.convInt .u8 (.t 19)),o 21 (.idxAddrSl 1 (.t 5) (.t 6)),⟨none,.store 1 (.t 21) (.t 20),none,0⟩])))
 (.region [o 22 (.bin .add (.t 11) (k 1)),o 11 (.mv (.t 22))])))))))
 (.seq (.region [o 24 (.strOfBytes (.t 5)),o 4 (.mv (.t 24))])
 .ret)))⟩
def e133 : T Unit := (eN (eN (eN eU .leaf) (eN .leaf (eN .leaf eU))) (eN (eN eU (eS .leaf eU)) (eN .leaf (eS eU eU))))
def c134 : CFunc := ⟨30,[.tmp 2],.seq (.region [o 2 (.mv (.v (.int .u32 (.ofNat 0))))])
 (.seq (.region [o 3 (.mv (.v (.int .u32 (.ofNat 4294967295))))])
 (.seq (.seq (.region [o 7 (.bytesOfStr 5 (.t 0)),o 8 (.lenSl (.t 7)),o 9 (.mv (k 0))])
 (.block 0 (.loop (.seq (.region [o 10 (.bin .lss (.t 9) (.t 8))])
 (.seq (.cond (.t 10)
 .skip
 (.exit 0))
 (.seq (.block 1 (.seq (.region [o 11 (.idxAddrSl 1 (.t 7) (.t 9)),o 12 (.load1 (.t 11)),o 5 (.mv (.t 12))])
 (.seq (.region [o 15 (.convInt .u32 (.t 5)),o 16 (.bin .xor (.t 3) (.t 15)),o 3 (.mv (.t 16))])
 (.seq (.region [o 17 (.mv (k 0))])
 (.block 2 (.loop (.seq (.region [o 18 (.bin .lss (.t 17) (k 8))])
 (.seq (.cond (.t 18)
 .skip
 (.exit 2))
 (.seq (.block 3 (.region [o 20 (.bin .shr (.t 3) (.v (.int .u64 (.ofNat 1)))),o 22 (.bin .and (.t 3) (.v (.int .u32 (.ofNat 1)))),o 23 (.un .neg (.t 22)),o 24 (.bin .and (.t 23) (.v (.int .u32 (.ofNat 3988292384)))),o 25 (.bin .xor (.t 20) (.t 24)),o 3 (.mv (.t 25))]))
 (.region [o 26 (.bin .add (.t 17) (k 1)),o 17 (.mv (.t 26))]))))))))))
 (.region [o 27 (.bin .add (.t 9) (k 1)),o 9 (.mv (.t 27))])))))))
 (.seq (.region [o 29 (.un .xor (.t 3)),o 2 (.mv (.t 29))])
 .ret)))⟩
def e134 : T Unit := (eN (eN (eS eU .leaf) (eN (eN eU .leaf) .leaf)) (eN (eN (eS .leaf eU) .leaf) (eN (eN .leaf eU) .leaf)))
def c135 : CFunc := ⟨5,[.tmp 2],.seq (.region [o 2 (.mv (.v (.str 0 0)))])
 (.seq (.region [o 4 (.call 213 [.t 0,k 10]),o 2 (.mv (.t 4))])
 .ret)⟩
def e135 : T Unit := (eN .leaf (eN .leaf eU))
def c136 : CFunc := ⟨30,[.tmp 4],.seq (.region [o 4 (.mv (k 0))])
 (.seq (.seq (.region [o 8 (.nilCheck (.t 0)),o 9 (.fieldAddr 2 (.t 8)),o 10 (.load1 (.t 9))])
 (.cond (.t 10)
 (.seq (.region [o 4 (.mv (k 7))])
 .ret)
 .skip))
 (.seq (.seq (.region [o 11 (.mv (.t 1)),o 12 (.lenSl (.t 11)),o 13 (.mv (k 0))])
 (.block 0 (.loop (.seq (.region [o 14 (.bin .lss (.t 13) (.t 12))])
 (.seq (.cond (.t 14)
 .skip
 (.exit 0))
 (.seq (.block 1 (.seq (.region [o 15 (.idxAddrSl 1 (.t 11) (.t 13)),o 16 (.load1 (.t 15)),o 6 (.mv (.t 16))])
 (.seq (.region [o 18 (.bin .eql (.t 6) (.v (.str 0 0))),g 20 (.mv (.t 6)) 18 false,g 21 (.lenStr (.t 20)) 18 false,g 22 (.bin .gtr (.t 21) (k 32)) 18 false,o 23 (.pick (.t 18) (.v (.bool true)) (.t 22)),g 25 (.mv (.t 6)) 23 false,g 26 (.bytesOfStr 5 (.t 25)) 23 false,g 27 (.call 214 [.t 26,.v (.func (.func 215) [] [])]) 23 false,o 28 (.pick (.t 23) (.v (.bool true)) (.t 27))])
 (.cond (.t 28)
 (.seq (.region [o 4 (.mv (k 2))])
 .ret)
 .skip))))
 (.region [o 29 (.bin .add (.t 13) (k 1)),o 13 (.mv (.t 29))])))))))
 (.seq (.region [o 4 (.mv (k 0))])
 .ret)))⟩
def e136 : T Unit := (eN (eN .leaf (eN .leaf (eN eU .leaf))) (eN (eN .leaf (eN .leaf eU)) (eN (eN .leaf eU) eU)))
def c137 : CFunc := ⟨40,[.tmp 6],.seq (.region [o 6 (.mv (k 0))])
 (.seq (.region [o 9 (.nilCheck (.t 0)),o 10 (.fieldAddr 5 (.t 9)),o 11 (.load1 (.t 10)),o 12 (.bin .add (.t 11) (k 1)),o 13 (.nilCheck (.t 0)),o 14 (.fieldAddr 5 (.t 13)),⟨none,.store 1 (.t 14) (.t 12),none,0⟩])
 (.seq (.draw [o 15 (.mv (.t 0)),⟨some 16,.nilCheck (.t 15),none,1⟩,⟨some 17,.fieldAddr 5 (.t 16),none,3⟩,⟨some 18,.load1 (.t 17),none,7⟩,o 19 (.mv (.t 0)),⟨some 20,.nilCheck (.t 19),none,16⟩,⟨some 21,.fieldAddr 3 (.t 20),none,48⟩,⟨some 22,.fieldAddr 0 (.t 21),none,112⟩,⟨some 23,.load1 (.t 22),none,240⟩,⟨some 24,.bin .eql (.t 18) (.t 23),none,511⟩,⟨some 7,.mv (.t 24),none,1023⟩])
 (.seq (.seq (.region [g 27 (.mv (.t 7)) 1 false,g 28 (.un .not (.t 27)) 1 false,o 29 (.pick (.t 1) (.v (.bool true)) (.t 28))])
 (.cond (.t 29)
 (.region [o 31 (.callV (.t 2) [])])
 .skip))
 (.seq (.seq (.region [o 32 (.mv (.t 7))])
 (.cond (.t 32)
 (.seq (.region [o 35 (.nilCheck (.t 0)),o 36 (.fieldAddr 3 (.t 35)),o 37 (.fieldAddr 1 (.t 36)),o 38 (.load1 (.t 37)),o 39 (.call 84 [.t 0,.t 38])])
 (.seq (.region [o 6 (.mv (k 7))])
 .ret))
 .skip))
 (.seq (.region [o 6 (.mv (k 0))])
 .ret)))))⟩
def e137 : T Unit := (eN (eN (eN (eN eU .leaf) (eN eU (eN .leaf eU))) (eN .leaf eU)) (eN (eN .leaf (eN eU (eN .leaf eU))) .leaf))
def c138 : CFunc := ⟨16,[],.draw [o 4 (.load1 (.t 2)),⟨some 5,.nilCheck (.t 4),none,1⟩,⟨some 6,.fieldAddr 1 (.t 5),none,3⟩,⟨some 7,.load1 (.t 6),none,7⟩,o 8 (.load1 (.t 3)),o 9 (.fieldAddr 0 (.t 0)),⟨some 10,.load1 (.t 9),none,32⟩,o 11 (.load1 (.t 1)),⟨some 12,.bin .add (.t 10) (.t 11),none,224⟩,o 13 (.fieldAddr 1 (.t 0)),⟨some 14,.load1 (.t 13),none,512⟩,⟨some 15,.build [.str 0 0,.int .i64 (.ofNat 0)] [(0,1,.t 12),(1,1,.t 14)],none,2016⟩,⟨none,.mapUpd true (.t 7) (.t 8) (.t 15),none,4095⟩]⟩
def e138 : T Unit := .leaf
def c139 : CFunc := ⟨34,[.cell 6 (some 2),.tmp 7],.seq (.region [o 6 (.newc 106 [.str 0 0,.int .i64 (.ofNat 0)]),o 7 (.mv (k 0))])
 (.seq (.seq (.region [o 14 (.buildSlice 9 1 1 [.str 0 0] [(0,1,.t 1)]),o 15 (.append 9 1 16 (.t 2) (.t 14)),o 16 (.call 136 [.t 0,.t 15]),o 8 (.mv (.t 16))])
 (.seq (.region [o 18 (.bin .neq (.t 8) (k 0))])
 (.cond (.t 18)
 (.seq (.region [o 19 (.build [.str 0 0,.int .i64 (.ofNat 0)] []),⟨none,.store 2 (.t 6) (.t 19),none,0⟩,o 7 (.mv (.t 8))])
 .ret)
 .skip)))
 (.seq (.region [o 23 (.nilCheck (.t 0)),o 24 (.fieldAddr 1 (.t 23)),o 25 (.load1 (.t 24)),o 27 (.lookup true (.agg [.str 0 0,.int .i64 (.ofNat 0)]) true (.t 25) (.t 1)),o 28 (.extract 0 (.t 27)),o 29 (.extract 1 (.t 27)),o 9 (.newc 106 [.str 0 0,.int .i64 (.ofNat 0)]),⟨none,.store 2 (.t 9) (.t 28),none,0⟩,o 10 (.mv (.t 29))])
 (.seq (.seq (.region [o 31 (.un .not (.t 10))])
 (.cond (.t 31)
 (.seq (.region [o 32 (.build [.str 0 0,.int .i64 (.ofNat 0)] []),⟨none,.store 2 (.t 6) (.t 32),none,0⟩,o 7 (.mv (k 4))])
 .ret)
 .skip))
 (.seq (.region [o 33 (.loadN 2 (.t 9)),⟨none,.store 2 (.t 6) (.t 33),none,0⟩,o 7 (.mv (k 0))])
 .ret))))⟩
def e139 : T Unit := (eN (eN (eN (eN eU eU) (eN eU .leaf)) (eN (eS .leaf eU) .leaf)) (eN (eN (eS .leaf eU) (eN .leaf eU)) (eN eU .leaf)))
def c140 : CFunc := ⟨14,[],.draw [o 3 (.load1 (.t 1)),⟨some 4,.nilCheck (.t 3),none,1⟩,⟨some 5,.fieldAddr 1 (.t 4),none,3⟩,⟨some 6,.load1 (.t 5),none,7⟩,o 7 (.load1 (.t 2)),o 8 (.fieldAddr 0 (.t 0)),⟨some 9,.load1 (.t 8),none,32⟩,o 10 (.fieldAddr 0 (.t 0)),⟨some 11,.load1 (.t 10),none,128⟩,⟨some 12,.lenStr (.t 11),none,384⟩,⟨some 13,.build [.str 0 0,.int .i64 (.ofNat 0)] [(0,1,.t 9),(1,1,.t 12)],none,992⟩,⟨none,.mapUpd true (.t 6) (.t 7) (.t 13),none,2047⟩]⟩
def e140 : T Unit := .leaf
def c141 : CFunc := ⟨15,[],.seq (.draw [o 4 (.load1 (.t 0)),⟨some 5,.nilCheck (.t 4),none,1⟩,⟨some 6,.fieldAddr 1 (.t 5),none,3⟩,⟨some 7,.load1 (.t 6),none,7⟩,o 8 (.load1 (.t 1)),⟨none,.delete true (.t 7) (.t 8),none,31⟩])
 (.draw [o 9 (.load1 (.t 0)),⟨some 10,.nilCheck (.t 9),none,1⟩,⟨some 11,.fieldAddr 1 (.t 10),none,3⟩,⟨some 12,.load1 (.t 11),none,7⟩,o 13 (.load1 (.t 3)),o 14 (.loadN 2 (.t 2)),⟨none,.mapUpd true (.t 12) (.t 13) (.t 14),none,63⟩])⟩
def e141 : T Unit := .leaf
def c149 : CFunc := ⟨11,[.tmp 2],.seq (.region [o 2 (.mv (k 0))])
 (.seq (.seq (.region [o 4 (.bin .lss (.t 0) (k 200)),g 6 (.mv (.t 0)) 4 false,g 7 (.bin .gtr (.t 6) (k 599)) 4 false,o 8 (.pick (.t 4) (.v (.bool true)) (.t 7))])
 (.cond (.t 8)
 (.seq (.region [o 2 (.mv (k 0))])
 .ret)
 .skip))
 (.seq (.region [o 10 (.bin .quo (.t 0) (k 100)),o 2 (.mv (.t 10))])
 .ret))⟩
def e149 : T Unit := (eN .leaf (eN (eS .leaf eU) eU))
def c152 : CFunc := ⟨52,[.tmp 2],.seq (.region [o 1 (.box 39 (.t 0)),o 2 (.mv (k 0))])
 (.seq (.seq (.region [o 6 (.fieldAddr 0 (.t 1)),o 7 (.load1 (.t 6)),o 8 (.call 149 [.t 7]),o 9 (.bin .eql (.t 8) (k 0)),g 11 (.fieldAddr 0 (.t 1)) 9 false,g 12 (.load1 (.t 11)) 9 false,g 13 (.fieldAddr 1 (.t 1)) 9 false,g 14 (.loadN 3 (.t 13)) 9 false,g 15 (.call 222 [.t 12,.t 14]) 9 false,g 16 (.un .not (.t 15)) 9 false,o 17 (.pick (.t 9) (.v (.bool true)) (.t 16))])
 (.cond (.t 17)
 (.seq (.region [o 2 (.mv (k 1))])
 .ret)
 .skip))
 (.seq (.region [o 18 (.fieldAddr 4 (.t 1)),o 19 (.load1 (.t 18)),o 20 (.lenSl (.t 19)),o 21 (.bin .lss (.t 20) (k 1)),g 23 (.fieldAddr 4 (.t 1)) 21 false,g 24 (.load1 (.t 23)) 21 false,g 25 (.lenSl (.t 24)) 21 false,g 26 (.bin .gtr (.t 25) (k 32)) 21 false,o 27 (.pick (.t 21) (.v (.bool true)) (.t 26)),o 3 (.mv (.t 27))])
 (.seq (.seq (.region [o 28 (.fieldAddr 4 (.t 1)),o 29 (.load1 (.t 28)),o 30 (.lenSl (.t 29)),o 31 (.mv (k 0))])
 (.block 0 (.loop (.seq (.region [o 32 (.bin .lss (.t 31) (.t 30))])
 (.seq (.cond (.t 32)
 .skip
 (.exit 0))
 (.seq (.block 1 (.seq (.region [o 33 (.idxAddrSl 1 (.t 29) (.t 31)),o 34 (.load1 (.t 33)),o 5 (.mv (.t 34))])
 (.seq (.seq (.region [o 36 (.call 223 [.t 5]),o 37 (.un .not (.t 36))])
 (.cond (.t 37)
 (.seq (.region [o 2 (.mv (k 2))])
 .ret)
 .skip))
 (.region [g 40 (.fieldAddr 1 (.t 1)) 3 false,g 41 (.loadN 3 (.t 40)) 3 false,g 42 (.call 192 [.t 41]) 3 false,g 43 (.lenStr (.t 42)) 3 false,g 44 (.bin .add (k 4) (.t 43)) 3 false,g 45 (.mv (.t 5)) 3 false,g 46 (.lenStr (.t 45)) 3 false,g 47 (.bin .add (.t 44) (.t 46)) 3 false,g 48 (.bin .gtr (.t 47) (k 510)) 3 false,o 49 (.pick (.t 3) (.v (.bool true)) (.t 48)),o 3 (.mv (.t 49))]))))
 (.region [o 50 (.bin .add (.t 31) (k 1)),o 31 (.mv (.t 50))])))))))
 (.seq (.seq (.region [o 51 (.mv (.t 3))])
 (.cond (.t 51)
 (.seq (.region [o 2 (.mv (k 3))])
 .ret)
 .skip))
 (.seq (.region [o 2 (.mv (k 0))])
 .ret)))))⟩
def e152 : T Unit := (eN (eN (eN (eN .leaf (eS .leaf eU)) eU) .leaf) (eN .leaf (eN (eN .leaf (eN .leaf eU)) (eN (eN .leaf eU) .leaf))))
def c154 : CFunc := ⟨79,[.tmp 12],.seq (.region [o 7 (.box 69 (.t 1)),o 8 (.box 84 (.t 2)),o 9 (.box 84 (.t 3)),o 11 (.box 39 (.t 5)),o 12 (.mv (.v (.bool false)))])
 (.seq (.seq (.draw [o 18 (.loadN 5 (.t 9)),o 19 (.loadN 5 (.t 8)),⟨some 20,.eql true (.fields [(0,none,.leaf 1),(1,none,.leaf 2),(2,none,.leaf 1),(3,none,.leaf 1),(4,none,.leaf 1)]) (.t 18) (.t 19),none,3⟩,⟨some 21,.mv (.t 20),none,7⟩,⟨some 22,.mv (.t 0),some (.t 21,true),15⟩,⟨some 23,.nilCheck (.t 22),some (.t 21,true),31⟩,⟨some 24,.fieldAddr 11 (.t 23),some (.t 21,true),63⟩,⟨some 25,.load1 (.t 24),some (.t 21,true),127⟩,⟨some 26,.fieldAddr 0 (.t 7),some (.t 21,true),15⟩,⟨some 27,.load1 (.t 26),some (.t 21,true),271⟩,⟨some 28,.loadN 5 (.t 9),some (.t 21,true),15⟩,⟨some 29,.call 229 [.t 25,.t 27,.t 28],some (.t 21,true),2047⟩,⟨some 30,.bin .neq (.t 29) (k 0),some (.t 21,true),4095⟩,⟨some 31,.pick (.t 21) (.t 30) (.v (.bool false)),none,8191⟩])
 (.cond (.t 31)
 (.seq (.region [o 12 (.mv (.v (.bool false)))])
 .ret)
 .skip))
 (.seq (.seq (.region [o 32 (.mv (.t 4)),o 33 (.lenSl (.t 32)),o 34 (.mv (k 0))])
 (.block 0 (.loop (.seq (.region [o 35 (.bin .lss (.t 34) (.t 33))])
 (.seq (.cond (.t 35)
 .skip
 (.exit 0))
 (.seq (.block 1 (.seq (.region [o 36 (.idxAddrSl 1 (.t 32) (.t 34)),o 37 (.load1 (.t 36)),o 14 (.mv (.t 37))])
 (.region [o 39 (.loadN 21 (.t 7)),o 40 (.fieldAddr 0 (.t 9)),o 41 (.load1 (.t 40)),o 43 (.loadN 5 (.t 11)),o 44 (.call 230 [.t 0,.t 39,.t 41,.t 14,.t 43])])))
 (.region [o 45 (.bin .add (.t 34) (k 1)),o 34 (.mv (.t 45))])))))))
 (.seq (.draw [o 47 (.mv (.t 0)),⟨some 48,.nilCheck (.t 47),none,1⟩,⟨some 49,.fieldAddr 11 (.t 48),none,3⟩,⟨some 50,.load1 (.t 49),none,7⟩,o 51 (.fieldAddr 0 (.t 7)),⟨some 52,.load1 (.t 51),none,16⟩,⟨some 53,.call 47 [.t 50,.t 52],none,63⟩,⟨some 46,.mv (.t 53),none,127⟩,⟨some 54,.extract 0 (.t 46),none,255⟩,⟨some 55,.extract 1 (.t 46),none,255⟩,⟨some 56,.extract 2 (.t 46),none,255⟩,o 15 (.newc 69 [.int .i64 (.ofNat 0),.int .i64 (.ofNat 0),.int .i64 (.ofNat 0),.str 0 0,.str 0 0,.bool false,.bool false,.bool false,.bool false,.bool false,.int .i64 (.ofNat 0),.int .i64 (.ofNat 0),.int .i64 (.ofNat 0),.int .i64 (.ofNat 0),.int .i64 (.ofNat 0),.str 0 0,.str 0 0,.str 0 0,.str 0 0,.nilslice,.nilslice]),⟨none,.store 21 (.t 15) (.t 54),none,2559⟩,⟨some 16,.mv (.t 55),none,7167⟩,⟨some 17,.mv (.t 56),none,16383⟩])
 (.seq (.seq (.draw [o 57 (.mv (.t 16)),⟨some 58,.call 92 [.t 57],none,1⟩,⟨some 59,.un .not (.t 58),none,3⟩,⟨some 60,.mv (.t 59),none,7⟩,⟨some 61,.mv (.t 0),some (.t 60,true),15⟩,⟨some 62,.nilCheck (.t 61),some (.t 60,true),31⟩,⟨some 63,.fieldAddr 11 (.t 62),some (.t 60,true),63⟩,⟨some 64,.load1 (.t 63),some (.t 60,true),127⟩,⟨some 65,.fieldAddr 0 (.t 7),some (.t 60,true),15⟩,⟨some 66,.load1 (.t 65),some (.t 60,true),271⟩,⟨some 67,.call 94 [.t 64,.t 66],some (.t 60,true),1023⟩,⟨some 68,.bin .eql (.t 67) (k 0),some (.t 60,true),2047⟩,⟨some 69,.pick (.t 60) (.t 68) (.v (.bool false)),none,4095⟩])
 (.cond (.t 69)
 (.region [o 71 (.fieldAddr 0 (.t 7)),o 72 (.load1 (.t 71)),o 73 (.build [.str 0 0,.int .i64 (.ofNat 0),.int .i64 (.ofNat 0),.int .i64 (.ofNat 0),.str 0 0,.nilslice] [(0,1,.v (.str 4 1701736295)),(2,1,.t 72)]),o 74 (.buildSlice 46 6 1 [.str 0 0,.int .i64 (.ofNat 0),.int .i64 (.ofNat 0),.int .i64 (.ofNat 0),.str 0 0,.nilslice] [(0,6,.t 73)]),o 75 (.call 45 [.t 0,.t 74])])
 .skip))
 (.seq (.region [o 76 (.fieldAddr 1 (.t 9)),o 77 (.load1 (.t 76)),o 78 (.bin .eql (.t 77) (.v (.str 1 82))),o 12 (.mv (.t 78))])
 .ret)))))⟩
def e154 : T Unit := (eN (eN (eN (eN .leaf (eN .leaf (eS .leaf eU))) (eN (eN .leaf eU) .leaf)) .leaf) .leaf)
def c155 : CFunc := ⟨29,[],.seq (.region [o 5 (.box 69 (.t 1)),o 7 (.box 84 (.t 3))])
 (.seq (.region [o 8 (.fieldAddr 1 (.t 7)),o 9 (.load1 (.t 8)),o 10 (.bin .eql (.t 9) (.v (.str 1 82)))])
 (.cond (.t 10)
 (.draw [o 11 (.mv (.t 0)),⟨some 12,.nilCheck (.t 11),none,1⟩,⟨some 13,.fieldAddr 13 (.t 12),none,3⟩,⟨some 14,.load1 (.t 13),none,7⟩,o 15 (.fieldAddr 0 (.t 5)),⟨some 16,.load1 (.t 15),none,16⟩,o 17 (.mv (.t 2)),⟨some 18,.call 76 [.t 16,.t 17],none,112⟩,o 19 (.mv (.t 0)),⟨some 20,.nilCheck (.t 19),none,256⟩,⟨some 21,.fieldAddr 0 (.t 20),none,768⟩,⟨some 22,.fieldAddr 3 (.t 21),none,1792⟩,⟨some 23,.loadN 4 (.t 22),none,3840⟩,o 24 (.loadN 21 (.t 5)),o 25 (.loadN 5 (.t 7)),⟨some 26,.call 232 [.t 23,.t 24,.t 25],none,32752⟩,⟨some 27,.max [k 0,.t 26],none,65520⟩,⟨some 28,.call 231 [.t 14,.t 18,.t 27],none,131071⟩])
 .skip))⟩
def e155 : T Unit := .leaf
def c156 : CFunc := ⟨32,[.tmp 2,.tmp 3],.seq (.region [o 2 (.mv (k 0)),o 3 (.mv (.v (.bool false)))])
 (.seq (.region [o 4 (.mv (k 0)),o 5 (.mv (.v (.bool false)))])
 (.seq (.seq (.region [o 9 (.mv (k 0))])
 (.block 0 (.loop (.seq (.region [o 10 (.bin .lss (.t 9) (k 5))])
 (.seq (.cond (.t 10)
 .skip
 (.exit 0))
 (.seq (.block 1 (.seq (.region [o 6 (.mv (.t 9))])
 (.seq (.region [o 15 (.call 233 [.t 0,.t 6]),o 16 (.extract 0 (.t 15)),o 17 (.extract 1 (.t 15)),o 7 (.mv (.t 16)),o 8 (.mv (.t 17))])
 (.seq (.region [g 20 (.mv (.t 5)) 8 true,g 21 (.un .not (.t 20)) 8 true,g 22 (.mv (.t 21)) 8 true,g 23 (.mv (.t 7)) 22 false,g 24 (.mv (.t 4)) 22 false,g 25 (.bin .lss (.t 23) (.t 24)) 22 false,g 26 (.pick (.t 22) (.v (.bool true)) (.t 25)) 8 true,o 27 (.pick (.t 8) (.t 26) (.v (.bool false)))])
 (.cond (.t 27)
 (.region [o 4 (.mv (.t 7)),o 5 (.mv (.v (.bool true)))])
 .skip)))))
 (.region [o 29 (.bin .add (.t 9) (k 1)),o 9 (.mv (.t 29))])))))))
 (.seq (.region [o 2 (.mv (.t 4)),o 3 (.mv (.t 5))])
 .ret)))⟩
def e156 : T Unit := (eN (eN (eN (eS eU .leaf) (eN .leaf eU)) (eN (eS eU .leaf) .leaf)) (eN (eN eU .leaf) (eN (eS .leaf eU) (eN .leaf (eN .leaf eU)))))
def c157 : CFunc := ⟨37,[],.seq (.region [o 2 (.box 93 (.t 0))])
 (.seq (.region [o 8 (.load1 (.t 2)),o 10 (.nilCheck (.t 8)),o 11 (.fieldAddr 0 (.t 10)),⟨none,.store 1 (.t 11) (.t 1),none,0⟩])
 (.seq (.region [o 12 (.mkFunc 234 [] [.t 2]),o 4 (.mv (.t 12))])
 (.seq (.seq (.region [o 5 (.mv (k 1))])
 (.block 0 (.loop (.seq (.seq (.region [o 14 (.bin .lss (.t 5) (k 4))])
 (.cond (.t 14)
 .skip
 (.exit 0)))
 (.seq (.block 1 (.seq (.region [o 17 (.load1 (.t 2)),o 19 (.nilCheck (.t 17)),o 20 (.fieldAddr 1 (.t 19)),o 21 (.idxAddrArr 4 64 (.t 20) (.t 5)),o 22 (.loadN 64 (.t 21)),o 23 (.mv (k 0))])
 (.block 2 (.loop (.seq (.region [o 24 (.bin .lss (.t 23) (k 64))])
 (.seq (.cond (.t 24)
 .skip
 (.exit 2))
 (.seq (.block 3 (.seq (.region [o 25 (.idxArr 64 1 none (.t 22) (.t 23)),o 7 (.mv (.t 25))])
 (.region [o 29 (.callV (.t 4) [.t 5,.t 7])])))
 (.region [o 30 (.bin .add (.t 23) (k 1)),o 23 (.mv (.t 30))]))))))))
 (.region [o 16 (.bin .add (.t 5) (k 1)),o 5 (.mv (.t 16))]))))))
 (.region [o 32 (.load1 (.t 2)),o 33 (.nilCheck (.t 32)),o 34 (.fieldAddr 257 (.t 33)),o 35 (.load1 (.t 34)),o 36 (.callV (.t 4) [k 4,.t 35])]))))⟩
def e157 : T Unit := (eN (eN (eN .leaf (eN eU eU)) (eN (eN eU .leaf) .leaf)) (eN (eN eU eU) (eN (eN eU .leaf) (eN .leaf (eS .leaf eU)))))
def c158 : CFunc := ⟨32,[.tmp 4],.seq (.region [o 3 (.box 256 (.t 1)),o 4 (.mv (.v .nilmap))])
 (.seq (.seq (.region [o 6 (.fieldAddr 0 (.t 3)),o 7 (.load1 (.t 6)),o 8 (.bin .eql (.t 7) (k 4))])
 (.cond (.t 8)
 (.seq (.region [o 10 (.nilCheck (.t 0)),o 11 (.fieldAddr 257 (.t 10)),o 12 (.load1 (.t 11)),o 4 (.mv (.t 12))])
 .ret)
 .skip))
 (.seq (.draw [o 13 (.mv (.t 0)),o 14 (.fieldAddr 0 (.t 3)),⟨some 15,.load1 (.t 14),none,2⟩,o 16 (.fieldAddr 1 (.t 3)),⟨some 17,.load1 (.t 16),none,8⟩,⟨some 18,.nilCheck (.t 13),none,1⟩,⟨some 19,.fieldAddr 1 (.t 18),none,33⟩,⟨some 20,.idxAddrArr 4 64 (.t 19) (.t 15),none,103⟩,⟨some 21,.idxAddrArr 64 1 (.t 20) (.t 17),none,255⟩,⟨some 5,.mv (.t 21),none,511⟩])
 (.seq (.seq (.region [o 23 (.nilCheck (.t 5)),o 24 (.load1 (.t 23)),o 25 (.eql false (.leaf 5) (.t 24) (.v .nilmap))])
 (.cond (.t 25)
 (.region [o 27 (.mkMap),o 28 (.nilCheck (.t 5)),⟨none,.store 1 (.t 28) (.t 27),none,0⟩])
 .skip))
 (.seq (.region [o 30 (.nilCheck (.t 5)),o 31 (.load1 (.t 30)),o 4 (.mv (.t 31))])
 .ret))))⟩
def e158 : T Unit := (eN (eN (eN (eN .leaf eU) (eN eU .leaf)) .leaf) (eN (eN (eN eU .leaf) eU) .leaf))
def c159 : CFunc := ⟨4,[.tmp 2],.seq (.region [o 1 (.box 246 (.t 0)),o 2 (.mv (.v .nilFunc))])
 (.seq (.region [o 3 (.mkFunc 237 [] [.t 1]),o 2 (.mv (.t 3))])
 .ret)⟩
def e159 : T Unit := .leaf
def c160 : CFunc := ⟨27,[.tmp 4],.seq (.region [o 4 (.mv (.v (.bool false)))])
 (.seq (.region [o 9 (.nilCheck (.t 0)),o 10 (.fieldAddr 258 (.t 9)),o 11 (.load1 (.t 10)),o 13 (.lookup false (.agg [.int .i64 (.ofNat 0),.int .i64 (.ofNat 0)]) true (.t 11) (.t 1)),o 14 (.extract 0 (.t 13)),o 15 (.extract 1 (.t 13)),o 5 (.newc 256 [.int .i64 (.ofNat 0),.int .i64 (.ofNat 0)]),⟨none,.store 2 (.t 5) (.t 14),none,0⟩,o 6 (.mv (.t 15))])
 (.seq (.seq (.region [o 16 (.mv (.t 6))])
 (.cond (.t 16)
 (.seq (.region [o 18 (.loadN 2 (.t 5)),o 19 (.call 158 [.t 0,.t 18]),⟨none,.delete false (.t 19) (.t 1),none,0⟩])
 (.region [o 22 (.nilCheck (.t 0)),o 23 (.fieldAddr 258 (.t 22)),o 24 (.load1 (.t 23)),⟨none,.delete false (.t 24) (.t 1),none,0⟩]))
 .skip))
 (.seq (.region [o 4 (.mv (.t 6))])
 .ret)))⟩
def e160 : T Unit := (eN (eN (eN .leaf (eN eU .leaf)) (eN (eS .leaf eU) eU)) (eN (eN (eN .leaf eU) (eN eU eU)) (eN .leaf eU)))
def c161 : CFunc := ⟨32,[.cell 8 (some 5),.tmp 9,.tmp 10],.seq (.region [o 4 (.box 29 (.t 0)),o 5 (.box 69 (.t 1)),o 6 (.box 84 (.t 2)),o 8 (.newc 84 [.int .i64 (.ofNat 0),.str 0 0,.int .i64 (.ofNat 0),.int .i64 (.ofNat 0),.int .i64 (.ofNat 0)]),o 9 (.mv (.v .nilslice)),o 10 (.mv (k 0))])
 (.seq (.seq (.region [o 13 (.loadN 4 (.t 4)),o 14 (.loadN 21 (.t 5)),o 15 (.loadN 5 (.t 6)),o 17 (.call 224 [.t 13,.t 14,.t 15,.t 3]),o 11 (.mv (.t 17))])
 (.seq (.region [o 19 (.bin .neq (.t 11) (k 0))])
 (.cond (.t 19)
 (.seq (.region [o 20 (.build [.int .i64 (.ofNat 0),.str 0 0,.int .i64 (.ofNat 0),.int .i64 (.ofNat 0),.int .i64 (.ofNat 0)] []),⟨none,.store 5 (.t 8) (.t 20),none,0⟩,o 9 (.mv (.v .nilslice)),o 10 (.mv (.t 11))])
 .ret)
 .skip)))
 (.seq (.region [o 23 (.loadN 4 (.t 4)),o 24 (.loadN 21 (.t 5)),o 25 (.loadN 5 (.t 6)),o 27 (.call 228 [.t 23,.t 24,.t 25,.t 3]),o 28 (.extract 0 (.t 27)),o 29 (.extract 1 (.t 27)),⟨none,.store 5 (.t 6) (.t 28),none,0⟩,o 12 (.mv (.t 29))])
 (.seq (.region [o 30 (.loadN 5 (.t 6)),⟨none,.store 5 (.t 8) (.t 30),none,0⟩,o 9 (.mv (.t 12)),o 10 (.mv (k 0))])
 .ret)))⟩
def e161 : T Unit := (eN (eN (eN (eN .leaf eU) (eN eU eU)) (eN .leaf (eN .leaf eU))) (eN (eN (eN .leaf eU) .leaf) (eN .leaf (eN .leaf (eN .leaf eU)))))
def c162 : CFunc := ⟨82,[.tmp 4],.seq (.region [o 3 (.box 164 (.t 1)),o 4 (.mv (k 0))])
 (.seq (.draw [o 8 (.mv (.t 0)),⟨some 9,.nilCheck (.t 8),none,1⟩,⟨some 10,.fieldAddr 4 (.t 9),none,3⟩,⟨some 11,.load1 (.t 10),none,7⟩,o 12 (.fieldAddr 0 (.t 3)),⟨some 13,.load1 (.t 12),none,16⟩,⟨some 14,.lookup false (.str 0 0) true (.t 11) (.t 13),none,63⟩,⟨some 7,.mv (.t 14),none,127⟩,⟨some 15,.extract 0 (.t 7),none,255⟩,⟨some 16,.extract 1 (.t 7),none,255⟩,⟨some 5,.mv (.t 15),none,511⟩,⟨some 6,.mv (.t 16),none,2047⟩])
 (.seq (.block 0 (.seq (.region [o 18 (.fieldAddr 0 (.t 3)),o 19 (.load1 (.t 18)),o 20 (.bin .lss (.t 19) (k 0)),g 22 (.fieldAddr 1 (.t 3)) 20 false,g 23 (.load1 (.t 22)) 20 false,g 24 (.bin .eql (.t 23) (.v (.str 0 0))) 20 false,o 25 (.pick (.t 20) (.v (.bool true)) (.t 24)),g 27 (.fieldAddr 1 (.t 3)) 25 false,g 28 (.load1 (.t 27)) 25 false,g 29 (.lenStr (.t 28)) 25 false,g 30 (.bin .gtr (.t 29) (k 255)) 25 false,o 31 (.pick (.t 25) (.v (.bool true)) (.t 30)),g 33 (.fieldAddr 2 (.t 3)) 31 false,g 34 (.load1 (.t 33)) 31 false,g 35 (.bin .lss (.t 34) (.v (.int .i64 (.negSucc 8)))) 31 false,o 36 (.pick (.t 31) (.v (.bool true)) (.t 35)),g 38 (.fieldAddr 2 (.t 3)) 36 false,g 39 (.load1 (.t 38)) 36 false,g 40 (.bin .gtr (.t 39) (k 9)) 36 false,o 41 (.pick (.t 36) (.v (.bool true)) (.t 40)),g 43 (.fieldAddr 3 (.t 3)) 41 false,g 44 (.load1 (.t 43)) 41 false,g 45 (.bin .lss (.t 44) (k 0)) 41 false,o 46 (.pick (.t 41) (.v (.bool true)) (.t 45)),g 48 (.fieldAddr 3 (.t 3)) 46 false,g 49 (.load1 (.t 48)) 46 false,g 50 (.bin .gtr (.t 49) (k 1099511627776)) 46 false,o 51 (.pick (.t 46) (.v (.bool true)) (.t 50)),o 17 (.mv (.t 51))])
 (.cond (.t 17)
 (.seq (.region [o 4 (.mv (k 1))])
 .ret)
 (.seq (.region [g 55 (.mv (.t 0)) 6 false,g 56 (.fieldAddr 0 (.t 3)) 6 false,g 57 (.load1 (.t 56)) 6 false,g 58 (.call 238 [.t 55,.t 57]) 6 false,g 59 (.bin .geq (.t 58) (k 0)) 6 false,o 60 (.pick (.t 6) (.v (.bool true)) (.t 59)),o 52 (.mv (.t 60))])
 (.cond (.t 52)
 (.seq (.region [o 4 (.mv (k 11))])
 .ret)
 (.seq (.draw [o 62 (.mv (.t 0)),⟨some 63,.nilCheck (.t 62),none,1⟩,⟨some 64,.fieldAddr 3 (.t 63),none,3⟩,⟨some 65,.load1 (.t 64),none,7⟩,⟨some 66,.lenSl (.t 65),none,15⟩,o 67 (.mv (.t 0)),⟨some 68,.nilCheck (.t 67),none,32⟩,⟨some 69,.fieldAddr 2 (.t 68),none,96⟩,⟨some 70,.load1 (.t 69),none,224⟩,⟨some 71,.bin .geq (.t 66) (.t 70),none,511⟩,⟨some 61,.mv (.t 71),none,1023⟩])
 (.cond (.t 61)
 (.seq (.region [o 4 (.mv (k 6))])
 .ret)
 .skip)))))))
 (.seq (.draw [o 72 (.mv (.t 0)),o 73 (.mv (.t 0)),⟨some 74,.nilCheck (.t 73),none,2⟩,⟨some 75,.fieldAddr 3 (.t 74),none,6⟩,⟨some 76,.load1 (.t 75),none,14⟩,o 77 (.loadN 4 (.t 3)),⟨some 78,.buildSlice 164 4 1 [.int .i64 (.ofNat 0),.str 0 0,.int .i64 (.ofNat 0),.int .i64 (.ofNat 0)] [(0,4,.t 77)],none,32⟩,⟨some 79,.append 164 4 40 (.t 76) (.t 78),none,126⟩,⟨some 80,.nilCheck (.t 72),none,255⟩,⟨some 81,.fieldAddr 3 (.t 80),none,511⟩,⟨none,.store 1 (.t 81) (.t 79),none,1023⟩])
 (.seq (.region [o 4 (.mv (k 0))])
 .ret))))⟩
def e162 : T Unit := (eN (eN (eN (eN .leaf (eN eU .leaf)) (eN (eS .leaf eU) .leaf)) (eN .leaf (eN .leaf (eN .leaf eU)))) (eN (eN (eN .leaf (eS eU eU)) .leaf) (eN .leaf (eN .leaf (eN eU .leaf)))))
def c163 : CFunc := ⟨15,[.tmp 4],.seq (.region [o 3 (.box 62 (.t 1)),o 4 (.mv (.v (.str 0 0)))])
 (.seq (.seq (.region [o 5 (.fieldAddr 1 (.t 3)),o 6 (.load1 (.t 5)),o 7 (.bin .eql (.t 6) (.v (.str 0 0)))])
 (.cond (.t 7)
 (.seq (.region [o 9 (.nilCheck (.t 0)),o 10 (.fieldAddr 0 (.t 9)),o 11 (.fieldAddr 0 (.t 10)),o 12 (.load1 (.t 11)),o 4 (.mv (.t 12))])
 .ret)
 .skip))
 (.seq (.region [o 13 (.fieldAddr 1 (.t 3)),o 14 (.load1 (.t 13)),o 4 (.mv (.t 14))])
 .ret))⟩
def e163 : T Unit := (eN (eN .leaf (eN .leaf eU)) .leaf)
def c164 : CFunc := ⟨15,[.tmp 4],.seq (.region [o 2 (.box 94 (.t 0)),o 3 (.box 3 (.t 1)),o 4 (.mv (.v .nilslice))])
 (.seq (.region [o 6 (.load1 (.t 2)),o 7 (.nilCheck (.t 6)),o 8 (.fieldAddr 3 (.t 7)),o 9 (.load1 (.t 8)),o 10 (.call 239 [.t 9]),o 5 (.mv (.t 10))])
 (.seq (.region [o 12 (.mkFunc 241 [] [.t 3,.t 2]),o 13 (.call 240 [.t 5,.t 12])])
 (.seq (.region [o 4 (.mv (.t 5))])
 .ret)))⟩
def e164 : T Unit := (eN (eN (eN eU .leaf) .leaf) (eN .leaf (eN eU .leaf)))
def c165 : CFunc := ⟨19,[.tmp 4],.seq (.region [o 4 (.mv (k 0))])
 (.seq (.seq (.region [o 7 (.lenSl (.t 0)),o 8 (.mv (k 0))])
 (.block 0 (.loop (.seq (.region [o 9 (.bin .lss (.t 8) (.t 7))])
 (.seq (.cond (.t 9)
 .skip
 (.exit 0))
 (.seq (.block 1 (.seq (.region [o 5 (.mv (.t 8))])
 (.seq (.region [o 14 (.idxAddrSl 4 (.t 0) (.t 5)),o 15 (.loadN 4 (.t 14)),o 16 (.callV (.t 1) [.t 15])])
 (.cond (.t 16)
 (.seq (.region [o 4 (.mv (.t 5))])
 .ret)
 .skip))))
 (.region [o 18 (.bin .add (.t 8) (k 1)),o 8 (.mv (.t 18))])))))))
 (.seq (.region [o 4 (.mv (.v (.int .i64 (.negSucc 0))))])
 .ret))⟩
def e165 : T Unit := (eN (eN (eS .leaf eU) (eN eU .leaf)) (eN (eN eU (eN .leaf eU)) (eN eU .leaf)))
def c166 : CFunc := ⟨13,[.tmp 3],.seq (.region [o 2 (.box 164 (.t 0)),o 3 (.mv (.v (.bool false)))])
 (.seq (.draw [o 4 (.load1 (.t 1)),o 5 (.fieldAddr 1 (.t 2)),⟨some 6,.load1 (.t 5),none,2⟩,⟨some 7,.call 167 [.t 4,.t 6],none,7⟩,o 8 (.load1 (.t 1)),⟨some 9,.nilCheck (.t 8),none,16⟩,⟨some 10,.fieldAddr 1 (.t 9),none,48⟩,⟨some 11,.load1 (.t 10),none,112⟩,⟨some 12,.bin .lss (.t 7) (.t 11),none,255⟩,⟨some 3,.mv (.t 12),none,511⟩])
 .ret)⟩
def e166 : T Unit := .leaf
def c167 : CFunc := ⟨23,[.tmp 4],.seq (.region [o 4 (.mv (k 0))])
 (.seq (.region [o 5 (.mv (k 0))])
 (.seq (.seq (.region [o 9 (.nilCheck (.t 0)),o 10 (.fieldAddr 4 (.t 9)),o 11 (.load1 (.t 10)),o 12 (.range false (.t 11))])
 (.block 0 (.loop (.seq (.region [o 13 (.next false (.t 12)),o 14 (.extract 0 (.t 13))])
 (.seq (.cond (.t 14)
 .skip
 (.exit 0))
 (.block 1 (.seq (.region [o 15 (.entry (.t 12)),o 16 (.extract 1 (.t 15)),o 7 (.mv (.t 16))])
 (.seq (.region [o 19 (.bin .eql (.t 7) (.t 1))])
 (.cond (.t 19)
 (.region [o 21 (.bin .add (.t 5) (k 1)),o 5 (.mv (.t 21))])
 .skip)))))))))
 (.seq (.region [o 4 (.mv (.t 5))])
 .ret)))⟩
def e167 : T Unit := (eN (eN (eN (eN .leaf eU) (eN .leaf eU)) (eN (eN .leaf eU) eU)) (eN (eN .leaf (eN .leaf eU)) .leaf))
def c168 : CFunc := ⟨24,[.tmp 4],.seq (.region [o 4 (.mv (.v (.bool false)))])
 (.seq (.region [o 8 (.call 238 [.t 0,.t 1]),o 5 (.mv (.t 8))])
 (.seq (.seq (.region [o 10 (.bin .geq (.t 5) (k 0))])
 (.cond (.t 10)
 (.region [o 13 (.nilCheck (.t 0)),o 14 (.fieldAddr 3 (.t 13)),o 15 (.load1 (.t 14)),o 18 (.bin .add (.t 5) (k 1)),o 19 (.call 244 [.t 15,.t 5,.t 18]),o 20 (.nilCheck (.t 0)),o 21 (.fieldAddr 3 (.t 20)),⟨none,.store 1 (.t 21) (.t 19),none,0⟩])
 .skip))
 (.seq (.region [o 23 (.bin .geq (.t 5) (k 0)),o 4 (.mv (.t 23))])
 .ret)))⟩
def e168 : T Unit := (eN (eN (eS (eN .leaf eU) .leaf) (eN eU (eN .leaf eU))) (eN (eN .leaf (eS .leaf eU)) (eN eU eU)))
def c169 : CFunc := ⟨53,[.tmp 6,.tmp 7],.seq (.region [o 4 (.box 69 (.t 1)),o 6 (.mv (.v .nilptr)),o 7 (.mv (k 0))])
 (.seq (.region [o 13 (.call 105 [.t 0]),o 14 (.extract 0 (.t 13)),o 15 (.extract 1 (.t 13)),o 8 (.mv (.t 14)),o 9 (.mv (.t 15))])
 (.seq (.region [o 16 (.loadN 21 (.t 4)),o 17 (.call 245 [.t 16]),o 10 (.mv (.t 17))])
 (.seq (.block 0 (.seq (.region [o 20 (.bin .neq (.t 10) (k 0)),o 18 (.mv (.t 20))])
 (.cond (.t 18)
 (.seq (.region [o 6 (.mv (.v .nilptr)),o 7 (.mv (.t 10))])
 .ret)
 (.seq (.region [o 24 (.bin .lss (.t 2) (k 0)),g 26 (.mv (.t 2)) 24 false,g 27 (.fieldAddr 19 (.t 4)) 24 false,g 28 (.load1 (.t 27)) 24 false,g 29 (.lenSl (.t 28)) 24 false,g 30 (.bin .geq (.t 26) (.t 29)) 24 false,o 31 (.pick (.t 24) (.v (.bool true)) (.t 30)),o 22 (.mv (.t 31))])
 (.cond (.t 22)
 (.seq (.region [o 6 (.mv (.v .nilptr)),o 7 (.mv (k 1))])
 .ret)
 (.seq (.region [o 34 (.bin .neq (.t 9) (k 0)),g 36 (.mv (.t 8)) 34 false,g 37 (.mv (.t 0)) 34 false,g 38 (.bin .neq (.t 36) (.t 37)) 34 false,o 39 (.pick (.t 34) (.v (.bool true)) (.t 38)),o 32 (.mv (.t 39))])
 (.cond (.t 32)
 (.seq (.region [o 6 (.mv (.v .nilptr)),o 7 (.mv (k 2))])
 .ret)
 .skip)))))))
 (.seq (.draw [o 40 (.fieldAddr 19 (.t 4)),⟨some 41,.load1 (.t 40),none,1⟩,⟨some 42,.call 96 [.t 41],none,3⟩,o 43 (.fieldAddr 20 (.t 4)),⟨some 44,.load1 (.t 43),none,8⟩,⟨some 45,.call 97 [.t 44],none,31⟩,⟨some 46,.fieldAddr 19 (.t 4),none,31⟩,⟨none,.store 1 (.t 46) (.t 42),none,127⟩,⟨some 47,.fieldAddr 20 (.t 4),none,255⟩,⟨none,.store 1 (.t 47) (.t 45),none,511⟩])
 (.seq (.region [o 49 (.loadN 21 (.t 4)),o 51 (.build [.str 0 0,.int .i64 (.ofNat 0),.int .i64 (.ofNat 0),.int .i64 (.ofNat 0),.str 0 0,.str 0 0,.bool false,.bool false,.bool false,.bool false,.bool false,.int .i64 (.ofNat 0),.int .i64 (.ofNat 0),.int .i64 (.ofNat 0),.int .i64 (.ofNat 0),.int .i64 (.ofNat 0),.str 0 0,.str 0 0,.str 0 0,.str 0 0,.nilslice,.nilslice,.int .i64 (.ofNat 0),.int .i64 (.ofNat 0),.int .i64 (.ofNat 0),.int .i64 (.ofNat 0),.int .i64 (.ofNat 0),.int .i64 (.ofNat 0),.int .i64 (.ofNat 0),.int .i64 (.ofNat 0),.nilslice,.nilslice,.int .i64 (.ofNat 0)] [(0,1,.t 0),(1,21,.t 49),(22,1,.t 2)]),o 52 (.box 233 (.t 51)),o 6 (.mv (.t 52)),o 7 (.mv (k 0))])
 .ret)))))⟩
def e169 : T Unit := (eN (eN (eN .leaf (eN .leaf (eN eU .leaf))) (eN eU (eN .leaf (eN eU .leaf)))) (eN (eN (eN .leaf eU) (eN eU (eN .leaf eU))) (eN (eS .leaf (eS .leaf eU)) (eN eU .leaf))))
def c170 : CFunc := ⟨9,[.tmp 2],.seq (.region [o 2 (.mv (.v .nilslice))])
 (.seq (.region [o 4 (.nilCheck (.t 0)),o 5 (.fieldAddr 1 (.t 4)),o 6 (.load1 (.t 5)),o 7 (.call 247 [.t 6]),o 8 (.call 246 [.t 7]),o 2 (.mv (.t 8))])
 .ret)⟩
def e170 : T Unit := (eN .leaf (eN .leaf eU))
def c173 : CFunc := ⟨17,[.tmp 4,.tmp 5],.seq (.region [o 4 (.mv (.v (.str 0 0))),o 5 (.mv (k 0))])
 (.seq (.region [o 11 (.call 139 [.t 0,.t 1,.v .nilslice]),o 12 (.extract 0 (.t 11)),o 13 (.extract 1 (.t 11)),o 6 (.newc 106 [.str 0 0,.int .i64 (.ofNat 0)]),⟨none,.store 2 (.t 6) (.t 12),none,0⟩,o 7 (.mv (.t 13))])
 (.seq (.region [o 14 (.fieldAddr 0 (.t 6)),o 15 (.load1 (.t 14)),o 4 (.mv (.t 15)),o 5 (.mv (.t 7))])
 .ret))⟩
def e173 : T Unit := (eN (eN (eN .leaf eU) (eN .leaf (eS .leaf eU))) (eN (eN .leaf eU) .leaf))
def c175 : CFunc := ⟨18,[.tmp 2,.tmp 3],.seq (.region [o 2 (.mv (k 0)),o 3 (.mv (.v .nilIface))])
 (.seq (.region [o 8 (.call 252 [.t 0]),o 9 (.extract 0 (.t 8)),o 10 (.extract 1 (.t 8)),o 4 (.mv (.t 9)),o 5 (.mv (.t 10))])
 (.seq (.seq (.region [o 12 (.eql true (.leaf 7) (.t 5) (.v .nilIface))])
 (.cond (.t 12)
 (.seq (.region [o 16 (.call 253 [.v (.str 4 1768911937),.t 0,k 0,k 0,.t 5]),o 2 (.mv (.t 4)),o 3 (.mv (.t 16))])
 .ret)
 .skip))
 (.seq (.region [o 2 (.mv (.t 4)),o 3 (.mv (.v .nilIface))])
 .ret)))⟩
def e175 : T Unit := (eN (eN (eS eU .leaf) .leaf) (eN (eN eU (eN .leaf eU)) (eN eU (eS .leaf eU))))
def c176 : CFunc := ⟨9,[.tmp 4],.seq (.region [o 4 (.mv (.v (.bool false)))])
 (.seq (.region [o 7 (.call 254 [.t 0,.t 1]),o 8 (.bin .geq (.t 7) (k 0)),o 4 (.mv (.t 8))])
 .ret)⟩
def e176 : T Unit := (eN (eN eU .leaf) (eN eU .leaf))
def c177 : CFunc := ⟨6,[.tmp 2],.seq (.region [o 1 (.box 84 (.t 0)),o 2 (.mv (.v (.bool false)))])
 (.seq (.region [o 3 (.fieldAddr 1 (.t 1)),o 4 (.load1 (.t 3)),o 5 (.bin .eql (.t 4) (.v (.str 1 82))),o 2 (.mv (.t 5))])
 .ret)⟩
def e177 : T Unit := .leaf
def c178 : CFunc := ⟨18,[.tmp 2],.seq (.region [o 2 (.mv (k 0))])
 (.seq (.seq (.region [o 6 (.mv (.t 0)),o 7 (.lenSl (.t 6)),o 8 (.mv (k 0))])
 (.block 0 (.loop (.seq (.region [o 9 (.bin .lss (.t 8) (.t 7))])
 (.seq (.cond (.t 9)
 .skip
 (.exit 0))
 (.seq (.block 1 (.seq (.region [o 10 (.idxAddrSl 1 (.t 6) (.t 8)),o 11 (.load1 (.t 10)),o 4 (.mv (.t 11))])
 (.seq (.region [o 13 (.callV (.t 4) []),o 5 (.mv (.t 13))])
 (.seq (.region [o 15 (.bin .neq (.t 5) (k 0))])
 (.cond (.t 15)
 (.seq (.region [o 2 (.mv (.t 5))])
 .ret)
 .skip)))))
 (.region [o 17 (.bin .add (.t 8) (k 1)),o 8 (.mv (.t 17))])))))))
 (.seq (.region [o 2 (.mv (k 0))])
 .ret))⟩
def e178 : T Unit := (eN (eN (eN eU .leaf) (eN eU (eN .leaf eU))) .leaf)
def c181 : CFunc := ⟨10,[.tmp 4],.seq (.region [o 4 (.mv (.v (.str 0 0)))])
 (.seq (.region [o 6 (.bin .add (.t 0) (.v (.str 1 46))),o 8 (.call 71 [.t 1]),o 9 (.bin .add (.t 6) (.t 8)),o 4 (.mv (.t 9))])
 .ret)⟩
def e181 : T Unit := (eN .leaf (eN eU (eN .leaf eU)))
def c184 : CFunc := ⟨55,[.tmp 4],.seq (.region [o 4 (.mv (k 0))])
 (.seq (.seq (.region [o 12 (.bin .eql (.t 1) (.v (.str 0 0)))])
 (.cond (.t 12)
 (.seq (.region [o 4 (.mv (.v (.int .i64 (.negSucc 0))))])
 .ret)
 .skip))
 (.seq (.seq (.region [o 14 (.lenStr (.t 1)),o 15 (.bin .eql (.t 14) (k 1))])
 (.cond (.t 15)
 (.seq (.region [o 17 (.idxStr (.t 1) (k 0)),o 18 (.convInt .i32 (.t 17)),o 5 (.mv (.t 18))])
 (.seq (.seq (.region [o 20 (.bin .geq (.t 5) (.v (.int .i32 (.ofNat 128))))])
 (.cond (.t 20)
 (.region [o 5 (.mv (.v (.int .i32 (.ofNat 65533))))])
 .skip))
 (.seq (.region [o 23 (.call 256 [.t 0,.t 5]),o 4 (.mv (.t 23))])
 .ret)))
 .skip))
 (.seq (.seq (.region [o 25 (.lenStr (.t 0)),o 26 (.call 257 [.t 25])])
 (.cond (.t 26)
 (.seq (.region [o 29 (.call 199 [.t 1]),o 30 (.extract 0 (.t 29)),o 31 (.extract 1 (.t 29)),o 6 (.newc 292 [.bool false,.bool false,.bool false,.bool false,.bool false,.bool false,.bool false,.bool false,.bool false,.bool false,.bool false,.bool false,.bool false,.bool false,.bool false,.bool false,.bool false,.bool false,.bool false,.bool false,.bool false,.bool false,.bool false,.bool false,.bool false,.bool false,.bool false,.bool false,.bool false,.bool false,.bool false,.bool false,.bool false,.bool false,.bool false,.bool false,.bool false,.bool false,.bool false,.bool false,.bool false,.bool false,.bool false,.bool false,.bool false,.bool false,.bool false,.bool false,.bool false,.bool false,.bool false,.bool false,.bool false,.bool false,.bool false,.bool false,.bool false,.bool false,.bool false,.bool false,.bool false,.bool false,.bool false,.bool false,.bool false,.bool false,.bool false,.bool false,.bool false,.bool false,.bool false,.bool false,.bool false,.bool false,.bool false,.bool false,.bool false,.bool false,.bool false,.bool false,.bool false,.bool false,.bool false,.bool false,.bool false,.bool false,.bool false,.bool false,.bool false,.bool false,.bool false,.bool false,.bool false,.bool false,.bool false,.bool false,.bool false,.bool false,.bool false,.bool false,.bool false,.bool false,.bool false,.bool false,.bool false,.bool false,.bool false,.bool false,.bool false,.bool false,.bool false,.bool false,.bool false,.bool false,.bool false,.bool false,.bool false,.bool false,.bool false,.bool false,.bool false,.bool false,.bool false,.bool false,.bool false,.bool false,.bool false,.bool false,.bool false,.bool false,.bool false,.bool false,.bool false,.bool false,.bool false,.bool false,.bool false,.bool false,.bool false,.bool false,.bool false,.bool false,.bool false,.bool false,.bool false,.bool false,.bool false,.bool false,.bool false,.bool false,.bool false,.bool false,.bool false,.bool false,.bool false,.bool false,.bool false,.bool false,.bool false,.bool false,.bool false,.bool false,.bool false,.bool false,.bool false,.bool false,.bool false,.bool false,.bool false,.bool false,.bool false,.bool false,.bool false,.bool false,.bool false,.bool false,.bool false,.bool false,.bool false,.bool false,.bool false,.bool false,.bool false,.bool false,.bool false,.bool false,.bool false,.bool false,.bool false,.bool false,.bool false,.bool false,.bool false,.bool false,.bool false,.bool false,.bool false,.bool false,.bool false,.bool false,.bool false,.bool false,.bool false,.bool false,.bool false,.bool false,.bool false,.bool false,.bool false,.bool false,.bool false,.bool false,.bool false,.bool false,.bool false,.bool false,.bool false,.bool false,.bool false,.bool false,.bool false,.bool false,.bool false,.bool false,.bool false,.bool false,.bool false,.bool false,.bool false,.bool false,.bool false,.bool false,.bool false,.bool false,.bool false,.bool false,.bool false,.bool false,.bool false,.bool false,.bool false,.bool false,.bool false,.bool false,.bool false,.bool false,.bool false,.bool false,.bool false,.bool false,.bool false,.bool false,.bool false,.bool false,.bool false,.bool false]),⟨none,.store 256 (.t 6) (.t 30),none,0⟩,o 7 (.mv (.t 31))])
 (.seq (.region [o 32 (.mv (.t 7))])
 (.cond (.t 32)
 (.seq (.seq (.region [o 8 (.mv (k 0))])
 (.block 0 (.loop (.seq (.seq (.region [o 35 (.lenStr (.t 0)),o 36 (.bin .lss (.t 8) (.t 35))])
 (.cond (.t 36)
 .skip
 (.exit 0)))
 (.seq (.block 1 (.seq (.region [o 41 (.idxStr (.t 0) (.t 8)),o 42 (.call 258 [.t 6,.t 41])])
 (.cond (.t 42)
 (.seq (.region [o 4 (.mv (.t 8))])
 .ret)
 .skip)))
 (.region [o 38 (.bin .add (.t 8) (k 1)),o 8 (.mv (.t 38))]))))))
 (.seq (.region [o 4 (.mv (.v (.int .i64 (.negSucc 0))))])
 .ret))
 .skip)))
 .skip))
 (.seq (.seq (.region [o 45 (.range true (.t 0))])
 (.block 2 (.loop (.seq (.region [o 46 (.next true (.t 45)),o 47 (.extract 0 (.t 46))])
 (.seq (.cond (.t 47)
 .skip
 (.exit 2))
 (.block 3 (.seq (.region [o 48 (.extract 1 (.t 46)),o 49 (.extract 2 (.t 46)),o 9 (.mv (.t 48)),o 10 (.mv (.t 49))])
 (.seq (.region [o 52 (.call 256 [.t 1,.t 10]),o 53 (.bin .geq (.t 52) (k 0))])
 (.cond (.t 53)
 (.seq (.region [o 4 (.mv (.t 9))])
 .ret)
 .skip)))))))))
 (.seq (.region [o 4 (.mv (.v (.int .i64 (.negSucc 0))))])
 .ret)))))⟩
def e184 : T Unit := (eN (eN (eN (eN .leaf (eS eU .leaf)) (eN .leaf (eN eU eU))) (eN (eN (eS .leaf eU) .leaf) (eN (eS .leaf eU) eU))) (eN (eN (eS .leaf (eS .leaf eU)) (eN .leaf (eN .leaf eU))) (eN (eS (eS .leaf eU) (eS eU .leaf)) (eN (eN .leaf eU) .leaf))))
def c188 : CFunc := ⟨8,[.tmp 2],.seq (.region [o 2 (.mv (k 0))])
 (.seq (.cond (.v (.bool false))
 (.seq (.region [o 4 (.convInt .u32 (.t 0)),o 5 (.call 268 [.t 4]),o 2 (.mv (.t 5))])
 .ret)
 .skip)
 (.seq (.region [o 7 (.call 269 [.t 0]),o 2 (.mv (.t 7))])
 .ret))⟩
def e188 : T Unit := (eN (eN eU .leaf) (eN .leaf eU))
def c189 : CFunc := ⟨8,[.tmp 4],.seq (.region [o 4 (.mv (.v .nilFunc))])
 (.seq (.region [o 7 (.call 270 [.t 0,.t 1,k 0]),o 4 (.mv (.t 7))])
 .ret)⟩
def e189 : T Unit := (eN (eN eU .leaf) (eN eU .leaf))
def c190 : CFunc := ⟨25,[.tmp 2],.seq (.region [o 2 (.mv (.v (.bool false)))])
 (.seq (.region [o 4 (.bin .geq (.t 0) (.v (.int .u8 (.ofNat 97)))),g 6 (.mv (.t 0)) 4 true,g 7 (.bin .leq (.t 6) (.v (.int .u8 (.ofNat 122)))) 4 true,o 8 (.pick (.t 4) (.t 7) (.v (.bool false))),g 10 (.mv (.t 0)) 8 false,g 11 (.bin .geq (.t 10) (.v (.int .u8 (.ofNat 65)))) 8 false,g 12 (.mv (.t 11)) 8 false,g 13 (.mv (.t 0)) 12 true,g 14 (.bin .leq (.t 13) (.v (.int .u8 (.ofNat 90)))) 12 true,g 15 (.pick (.t 12) (.t 14) (.v (.bool false))) 8 false,o 16 (.pick (.t 8) (.v (.bool true)) (.t 15)),g 18 (.mv (.t 0)) 16 false,g 19 (.bin .geq (.t 18) (.v (.int .u8 (.ofNat 48)))) 16 false,g 20 (.mv (.t 19)) 16 false,g 21 (.mv (.t 0)) 20 true,g 22 (.bin .leq (.t 21) (.v (.int .u8 (.ofNat 57)))) 20 true,g 23 (.pick (.t 20) (.t 22) (.v (.bool false))) 16 false,o 24 (.pick (.t 16) (.v (.bool true)) (.t 23)),o 2 (.mv (.t 24))])
 .ret)⟩
def e190 : T Unit := (eN .leaf (eN (eS .leaf (eS .leaf eU)) eU))
def c191 : CFunc := ⟨78,[.tmp 2],.seq (.region [o 2 (.mv (.v (.str 0 0)))])
 (.seq (.region [o 3 (.mv (.v (.bool true))),o 4 (.mv (.v (.bool false)))])
 (.seq (.seq (.region [o 5 (.mv (k 0))])
 (.block 0 (.loop (.seq (.seq (.region [o 13 (.lenStr (.t 0)),o 14 (.bin .lss (.t 5) (.t 13))])
 (.cond (.t 14)
 .skip
 (.exit 0)))
 (.seq (.block 1 (.seq (.region [o 19 (.idxStr (.t 0) (.t 5)),o 6 (.mv (.t 19))])
 (.seq (.seq (.region [o 21 (.bin .geq (.t 6) (.v (.int .u8 (.ofNat 128))))])
 (.cond (.t 21)
 (.seq (.region [o 3 (.mv (.v (.bool false)))])
 (.exit 0))
 .skip))
 (.region [g 24 (.mv (.t 6)) 4 false,g 25 (.bin .leq (.v (.int .u8 (.ofNat 65))) (.t 24)) 4 false,g 26 (.mv (.t 25)) 4 false,g 27 (.mv (.t 6)) 26 true,g 28 (.bin .leq (.t 27) (.v (.int .u8 (.ofNat 90)))) 26 true,g 29 (.pick (.t 26) (.t 28) (.v (.bool false))) 4 false,o 30 (.pick (.t 4) (.v (.bool true)) (.t 29)),o 4 (.mv (.t 30))]))))
 (.region [o 16 (.bin .add (.t 5) (k 1)),o 5 (.mv (.t 16))]))))))
 (.seq (.seq (.region [o 31 (.mv (.t 3))])
 (.cond (.t 31)
 (.seq (.seq (.region [o 33 (.un .not (.t 4))])
 (.cond (.t 33)
 (.seq (.region [o 2 (.mv (.t 0))])
 .ret)
 .skip))
 (.seq (.region [o 7 (.newc 111 [.nilptr,.nilslice])])
 (.seq (.region [o 8 (.mv (k 0))])
 (.seq (.region [o 36 (.lenStr (.t 0)),o 37 (.call 271 [.t 7,.t 36])])
 (.seq (.seq (.region [o 9 (.mv (k 0))])
 (.block 2 (.loop (.seq (.seq (.region [o 40 (.lenStr (.t 0)),o 41 (.bin .lss (.t 9) (.t 40))])
 (.cond (.t 41)
 .skip
 (.exit 2)))
 (.seq (.block 3 (.seq (.region [o 46 (.idxStr (.t 0) (.t 9)),o 10 (.mv (.t 46))])
 (.seq (.region [o 48 (.bin .leq (.v (.int .u8 (.ofNat 65))) (.t 10)),g 50 (.mv (.t 10)) 48 true,g 51 (.bin .leq (.t 50) (.v (.int .u8 (.ofNat 90)))) 48 true,o 52 (.pick (.t 48) (.t 51) (.v (.bool false)))])
 (.cond (.t 52)
 (.seq (.region [o 54 (.bin .add (.t 10) (.v (.int .u8 (.ofNat 32)))),o 10 (.mv (.t 54))])
 (.seq (.seq (.region [o 57 (.bin .lss (.t 8) (.t 9))])
 (.cond (.t 57)
 (.region [o 61 (.sliceStr (.t 0) (some (.t 8)) (some (.t 9))),o 62 (.call 50 [.t 7,.t 61])])
 .skip))
 (.seq (.region [o 64 (.call 272 [.t 7,.t 10])])
 (.region [o 66 (.bin .add (.t 9) (k 1)),o 8 (.mv (.t 66))]))))
 .skip))))
 (.region [o 43 (.bin .add (.t 9) (k 1)),o 9 (.mv (.t 43))]))))))
 (.seq (.seq (.region [o 69 (.lenStr (.t 0)),o 70 (.bin .lss (.t 8) (.t 69))])
 (.cond (.t 70)
 (.region [o 73 (.sliceStr (.t 0) (some (.t 8)) none),o 74 (.call 50 [.t 7,.t 73])])
 .skip))
 (.seq (.region [o 75 (.call 51 [.t 7]),o 2 (.mv (.t 75))])
 .ret)))))))
 .skip))
 (.seq (.region [o 77 (.call 273 [.v (.func (.func 274) [] []),.t 0]),o 2 (.mv (.t 77))])
 .ret))))⟩
def e191 : T Unit := (eN (eN (eN (eN .leaf (eS .leaf eU)) (eN (eN eU eU) (eS .leaf eU))) (eN (eS (eN eU (eS .leaf eU)) (eS .leaf (eN .leaf eU))) (eN (eN eU (eN .leaf eU)) (eN .leaf eU)))) (eN (eN (eN (eN .leaf eU) (eN eU .leaf)) (eN .leaf (eS eU (eN .leaf eU)))) (eN (eS (eN eU .leaf) (eN .leaf (eS .leaf eU))) (eN (eS eU (eS .leaf eU)) (eS eU (eN .leaf eU))))))
def c192 : CFunc := ⟨20,[.tmp 2],.seq (.region [o 1 (.box 37 (.t 0)),o 2 (.mv (.v (.str 0 0)))])
 (.seq (.seq (.region [o 3 (.loadN 3 (.t 1)),o 4 (.build [.int .i64 (.ofNat 0),.int .i64 (.ofNat 0),.int .i64 (.ofNat 0)] []),o 5 (.eql false (.fields [(0,none,.leaf 1),(1,none,.leaf 1),(2,none,.leaf 1)]) (.t 3) (.t 4))])
 (.cond (.t 5)
 (.seq (.region [o 2 (.mv (.v (.str 0 0)))])
 .ret)
 .skip))
 (.seq (.draw [o 6 (.idxAddrArr 3 1 (.t 1) (k 0)),⟨some 7,.load1 (.t 6),none,1⟩,⟨some 8,.call 71 [.t 7],none,3⟩,⟨some 9,.bin .add (.t 8) (.v (.str 1 46)),none,7⟩,o 10 (.idxAddrArr 3 1 (.t 1) (k 1)),⟨some 11,.load1 (.t 10),none,16⟩,⟨some 12,.call 71 [.t 11],none,55⟩,⟨some 13,.bin .add (.t 9) (.t 12),none,127⟩,⟨some 14,.bin .add (.t 13) (.v (.str 1 46)),none,255⟩,o 15 (.idxAddrArr 3 1 (.t 1) (k 2)),⟨some 16,.load1 (.t 15),none,512⟩,⟨some 17,.call 71 [.t 16],none,1655⟩,⟨some 18,.bin .add (.t 14) (.t 17),none,4095⟩,⟨some 19,.bin .add (.t 18) (.v (.str 1 32)),none,8191⟩,⟨some 2,.mv (.t 19),none,16383⟩])
 .ret))⟩
def e192 : T Unit := .leaf
def c193 : CFunc := ⟨96,[.cell 2 (some 5),.tmp 3],.seq (.region [o 2 (.newc 39 [.int .i64 (.ofNat 0),.int .i64 (.ofNat 0),.int .i64 (.ofNat 0),.int .i64 (.ofNat 0),.nilslice]),o 3 (.mv (.v (.bool false)))])
 (.seq (.region [o 9 (.nilCheck (.t 0)),o 10 (.fieldAddr 6 (.t 9)),o 11 (.fieldAddr 20 (.t 10)),o 12 (.load1 (.t 11)),o 13 (.call 27 [.t 12]),o 14 (.extract 0 (.t 13)),o 15 (.extract 1 (.t 13)),o 4 (.mv (.t 14)),o 5 (.mv (.t 15))])
 (.seq (.region [o 16 (.build [.int .i64 (.ofNat 0),.int .i64 (.ofNat 0),.int .i64 (.ofNat 0),.int .i64 (.ofNat 0),.nilslice] []),o 6 (.newc 39 [.int .i64 (.ofNat 0),.int .i64 (.ofNat 0),.int .i64 (.ofNat 0),.int .i64 (.ofNat 0),.nilslice]),⟨none,.store 5 (.t 6) (.t 16),none,0⟩])
 (.seq (.block 0 (.seq (.region [o 66 (.lenStr (.t 4)),o 68 (.nilCheck (.t 0)),o 69 (.fieldAddr 1 (.t 68)),o 70 (.load1 (.t 69)),o 71 (.bin .gtr (.t 66) (.t 70)),o 64 (.mv (.t 71))])
 (.cond (.t 64)
 (.region [o 72 (.buildSlice 9 1 1 [.str 0 0] [(0,1,.v (.str 4 1702521203))]),o 73 (.call 107 [k 552,.v (.str 5 224113405493),.t 72]),⟨none,.store 5 (.t 6) (.t 73),none,0⟩])
 (.seq (.region [o 76 (.nilCheck (.t 0)),o 77 (.fieldAddr 27 (.t 76)),o 78 (.load1 (.t 77)),g 80 (.mv (.t 5)) 78 false,g 81 (.bin .neq (.t 80) (k 0)) 78 false,o 82 (.pick (.t 78) (.v (.bool true)) (.t 81)),o 74 (.mv (.t 82))])
 (.cond (.t 74)
 (.region [o 83 (.buildSlice 9 1 1 [.str 0 0] [(0,1,.v (.str 4 1836216166))]),o 84 (.call 107 [k 554,.v (.str 5 206933732917),.t 83]),⟨none,.store 5 (.t 6) (.t 84),none,0⟩])
 (.seq (.region [o 87 (.nilCheck (.t 0)),o 88 (.fieldAddr 5 (.t 87)),o 89 (.load1 (.t 88)),o 90 (.un .not (.t 89)),o 85 (.mv (.t 90))])
 (.cond (.t 85)
 (.region [o 91 (.buildSlice 9 1 1 [.str 0 0] [(0,1,.v (.str 4 1836019570))]),o 92 (.call 107 [k 452,.v (.str 5 211228503604),.t 91]),⟨none,.store 5 (.t 6) (.t 92),none,0⟩])
 (.seq (.region [o 19 (.nilCheck (.t 0)),o 20 (.fieldAddr 4 (.t 19)),o 21 (.load1 (.t 20)),o 22 (.nilCheck (.t 0)),o 23 (.fieldAddr 6 (.t 22)),o 24 (.fieldAddr 1 (.t 23)),⟨none,.store 1 (.t 24) (.t 21),none,0⟩])
 (.seq (.draw [o 25 (.mv (.t 0)),o 26 (.mv (.t 0)),⟨some 27,.nilCheck (.t 26),none,2⟩,⟨some 28,.fieldAddr 4 (.t 27),none,6⟩,⟨some 29,.load1 (.t 28),none,14⟩,o 30 (.mv (.t 0)),⟨some 31,.nilCheck (.t 30),none,32⟩,⟨some 32,.fieldAddr 6 (.t 31),none,96⟩,⟨some 33,.fieldAddr 5 (.t 32),none,224⟩,⟨some 34,.fieldAddr 6 (.t 33),none,480⟩,⟨some 35,.load1 (.t 34),none,992⟩,⟨some 36,.bin .add (.t 29) (.t 35),none,2046⟩,o 37 (.mv (.t 0)),⟨some 38,.nilCheck (.t 37),none,4096⟩,⟨some 39,.fieldAddr 6 (.t 38),none,12288⟩,⟨some 40,.fieldAddr 5 (.t 39),none,28672⟩,⟨some 41,.fieldAddr 7 (.t 40),none,61440⟩,⟨some 42,.load1 (.t 41),none,126976⟩,⟨some 43,.max [.t 36,.t 42],none,262142⟩,o 44 (.mv (.t 0)),⟨some 45,.nilCheck (.t 44),none,524288⟩,⟨some 46,.fieldAddr 4 (.t 45),none,1572864⟩,⟨some 47,.load1 (.t 46),none,3670016⟩,o 48 (.mv (.t 0)),⟨some 49,.nilCheck (.t 48),none,8388608⟩,⟨some 50,.fieldAddr 2 (.t 49),none,25165824⟩,⟨some 51,.load1 (.t 50),none,58720256⟩,⟨some 52,.bin .add (.t 47) (.t 51),none,133693440⟩,⟨some 53,.min [.t 43,.t 52],none,268435454⟩,⟨some 54,.nilCheck (.t 25),none,536870911⟩,⟨some 55,.fieldAddr 6 (.t 54),none,1073741823⟩,⟨some 56,.fieldAddr 2 (.t 55),none,2147483647⟩,⟨none,.store 1 (.t 56) (.t 53),none,4294967295⟩])
 (.seq (.region [o 59 (.nilCheck (.t 0)),o 60 (.fieldAddr 3 (.t 59)),⟨none,.store 1 (.t 60) (k 1),none,0⟩,o 61 (.nilCheck (.t 0)),o 62 (.fieldAddr 28 (.t 61)),⟨none,.store 1 (.t 62) (.v (.bool true)),none,0⟩])
 (.seq (.region [o 63 (.build [.int .i64 (.ofNat 0),.int .i64 (.ofNat 0),.int .i64 (.ofNat 0),.int .i64 (.ofNat 0),.nilslice] []),⟨none,.store 5 (.t 2) (.t 63),none,0⟩,o 3 (.mv (.v (.bool false)))])
 .ret)))))))))))
 (.seq (.region [o 94 (.call 110 [.t 0])])
 (.seq (.region [o 95 (.loadN 5 (.t 6)),⟨none,.store 5 (.t 2) (.t 95),none,0⟩,o 3 (.mv (.v (.bool true)))])
 .ret)))))⟩
def e193 : T Unit := (eN (eN (eN (eN .leaf (eN (eN .leaf eU) .leaf)) (eN (eN eU .leaf) eU)) (eN .leaf eU)) (eN (eN (eN (eN (eN .leaf eU) .leaf) .leaf) (eN (eN eU .leaf) (eS .leaf (eN .leaf eU)))) (eN (eN (eN .leaf (eN .leaf eU)) (eN .leaf (eN .leaf eU))) (eS .leaf (eN (eN .leaf eU) .leaf)))))
def c194 : CFunc := ⟨8,[.tmp 4],.seq (.region [o 4 (.mv (.v (.str 0 0)))])
 (.seq (.region [o 7 (.call 275 [.t 0,.t 1]),o 4 (.mv (.t 7))])
 .ret)⟩
def e194 : T Unit := (eN (eN eU .leaf) (eN eU .leaf))
def c195 : CFunc := ⟨50,[.tmp 2,.tmp 3],.seq (.region [o 2 (.mv (.v (.str 0 0))),o 3 (.mv (k 0))])
 (.seq (.seq (.region [o 7 (.bin .lss (.t 0) (k 0)),g 9 (.mv (.t 0)) 7 false,g 10 (.bin .geq (.t 9) (k 253402300800)) 7 false,o 11 (.pick (.t 7) (.v (.bool true)) (.t 10))])
 (.cond (.t 11)
 (.seq (.region [o 2 (.mv (.v (.str 0 0))),o 3 (.mv (k 1))])
 .ret)
 .skip))
 (.seq (.region [o 14 (.bin .quo (.t 0) (k 86400)),o 15 (.call 276 [.t 14]),o 16 (.extract 0 (.t 15)),o 17 (.extract 1 (.t 15)),o 4 (.newc 362 [.int .i64 (.ofNat 0),.int .i64 (.ofNat 0),.int .i64 (.ofNat 0)]),⟨none,.store 3 (.t 4) (.t 16),none,0⟩])
 (.seq (.region [o 19 (.bin .rem (.t 0) (k 86400)),o 0 (.mv (.t 19))])
 (.seq (.draw [o 20 (.fieldAddr 0 (.t 4)),⟨some 21,.load1 (.t 20),none,1⟩,⟨some 22,.call 277 [.t 21,k 4],none,3⟩,⟨some 23,.bin .add (.t 22) (.v (.str 1 45)),none,7⟩,o 24 (.fieldAddr 1 (.t 4)),⟨some 25,.load1 (.t 24),none,16⟩,⟨some 26,.call 277 [.t 25,k 2],none,55⟩,⟨some 27,.bin .add (.t 23) (.t 26),none,127⟩,⟨some 28,.bin .add (.t 27) (.v (.str 1 45)),none,255⟩,o 29 (.fieldAddr 2 (.t 4)),⟨some 30,.load1 (.t 29),none,512⟩,⟨some 31,.call 277 [.t 30,k 2],none,1655⟩,⟨some 32,.bin .add (.t 28) (.t 31),none,4095⟩,⟨some 33,.bin .add (.t 32) (.v (.str 1 84)),none,8191⟩,o 34 (.mv (.t 0)),⟨some 35,.bin .quo (.t 34) (k 3600),none,16384⟩,⟨some 36,.call 277 [.t 35,k 2],none,52855⟩,⟨some 37,.bin .add (.t 33) (.t 36),none,131071⟩,⟨some 38,.bin .add (.t 37) (.v (.str 1 58)),none,262143⟩,o 39 (.mv (.t 0)),⟨some 40,.bin .quo (.t 39) (k 60),none,524288⟩,⟨some 41,.bin .rem (.t 40) (k 60),none,1572864⟩,⟨some 42,.call 277 [.t 41,k 2],none,3788407⟩,⟨some 43,.bin .add (.t 38) (.t 42),none,8388607⟩,⟨some 44,.bin .add (.t 43) (.v (.str 1 58)),none,16777215⟩,o 45 (.mv (.t 0)),⟨some 46,.bin .rem (.t 45) (k 60),none,33554432⟩,⟨some 47,.call 277 [.t 46,k 2],none,108646007⟩,⟨some 48,.bin .add (.t 44) (.t 47),none,268435455⟩,⟨some 49,.bin .add (.t 48) (.v (.str 1 90)),none,536870911⟩,⟨some 2,.mv (.t 49),none,1073741823⟩,⟨some 3,.mv (k 0),none,2147483647⟩])
 .ret))))⟩
def e195 : T Unit := (eN (eN (eS .leaf (eN .leaf eU)) (eN eU eU)) (eN (eS eU .leaf) .leaf))
def c196 : CFunc := ⟨13,[.tmp 4,.tmp 5,.tmp 6],.seq (.region [o 4 (.mv (.v (.str 0 0))),o 5 (.mv (.v (.str 0 0))),o 6 (.mv (.v (.bool false)))])
 (.seq (.region [o 9 (.call 278 [.t 0,.t 1]),o 10 (.extract 0 (.t 9)),o 11 (.extract 1 (.t 9)),o 12 (.extract 2 (.t 9)),o 4 (.mv (.t 10)),o 5 (.mv (.t 11)),o 6 (.mv (.t 12))])
 .ret)⟩
def e196 : T Unit := (eN (eN .leaf (eN .leaf eU)) (eN .leaf (eN .leaf eU)))
def c197 : CFunc := ⟨30,[.tmp 2],.seq (.region [o 2 (.mv (.v (.str 0 0)))])
 (.seq (.region [o 7 (.bytesOfStr 5 (.t 0)),o 3 (.mv (.t 7))])
 (.seq (.seq (.region [o 8 (.mv (.t 3)),o 9 (.lenSl (.t 8)),o 10 (.mv (k 0))])
 (.block 0 (.loop (.seq (.region [o 11 (.bin .lss (.t 10) (.t 9))])
 (.seq (.cond (.t 11)
 .skip
 (.exit 0))
 (.seq (.block 1 (.seq (.region [o 13 (.idxAddrSl 1 (.t 8) (.t 10)),o 14 (.load1 (.t 13)),o 4 (.mv (.t 10)),o 5 (.mv (.t 14))])
 (.seq (.region [o 16 (.bin .geq (.t 5) (.v (.int .u8 (.ofNat 97)))),g 18 (.mv (.t 5)) 16 true,g 19 (.bin .leq (.t 18) (.v (.int .u8 (.ofNat 122)))) 16 true,o 20 (.pick (.t 16) (.t 19) (.v (.bool false)))])
 (.cond (.t 20)
 (.region [o 24 (.bin .sub (.t 5) (.v (.int .u8 (.ofNat 97)))),o 25 (.bin .add (.t 24) (.v (.int .u8 (.ofNat 65)))),o 26 (.idxAddrSl 1 (.t 3) (.t 4)),⟨none,.store 1 (.t 26) (.t 25),none,0⟩])
 .skip))))
 (.region [o 27 (.bin .add (.t 10) (k 1)),o 10 (.mv (.t 27))])))))))
 (.seq (.region [o 29 (.strOfBytes (.t 3)),o 2 (.mv (.t 29))])
 .ret)))⟩
def e197 : T Unit := (eN (eN (eS (eN .leaf eU) .leaf) (eN (eS eU .leaf) .leaf)) (eN (eN (eN .leaf eU) (eN .leaf eU)) (eN .leaf (eN eU eU))))
def c198 : CFunc := ⟨23,[.tmp 4],.seq (.region [o 4 (.mv (.v (.str 0 0)))])
 (.seq (.block 0 (.loop (.seq (.seq (.region [o 6 (.lenStr (.t 0)),o 7 (.bin .gtr (.t 6) (k 0)),g 9 (.mv (.t 0)) 7 true,g 10 (.mv (.t 0)) 7 true,g 11 (.lenStr (.t 10)) 7 true,g 12 (.bin .sub (.t 11) (k 1)) 7 true,g 13 (.idxStr (.t 9) (.t 12)) 7 true,g 14 (.mv (.t 1)) 7 true,g 15 (.bin .eql (.t 13) (.t 14)) 7 true,o 16 (.pick (.t 7) (.t 15) (.v (.bool false)))])
 (.cond (.t 16)
 .skip
 (.exit 0)))
 (.block 1 (.region [o 19 (.lenStr (.t 0)),o 20 (.bin .sub (.t 19) (k 1)),o 21 (.sliceStr (.t 0) none (some (.t 20))),o 0 (.mv (.t 21))])))))
 (.seq (.region [o 4 (.mv (.t 0))])
 .ret))⟩
def e198 : T Unit := (eN (eN (eN (eN .leaf eU) (eN .leaf eU)) (eN .leaf eU)) (eN (eS .leaf (eN .leaf eU)) .leaf))
def c199 : CFunc := ⟨21,[.cell 2 (some 256),.tmp 3],.seq (.region [o 2 (.newc 292 [.bool false,.bool false,.bool false,.bool false,.bool false,.bool false,.bool false,.bool false,.bool false,.bool false,.bool false,.bool false,.bool false,.bool false,.bool false,.bool false,.bool false,.bool false,.bool false,.bool false,.bool false,.bool false,.bool false,.bool false,.bool false,.bool false,.bool false,.bool false,.bool false,.bool false,.bool false,.bool false,.bool false,.bool false,.bool false,.bool false,.bool false,.bool false,.bool false,.bool false,.bool false,.bool false,.bool false,.bool false,.bool false,.bool false,.bool false,.bool false,.bool false,.bool false,.bool false,.bool false,.bool false,.bool false,.bool false,.bool false,.bool false,.bool false,.bool false,.bool false,.bool false,.bool false,.bool false,.bool false,.bool false,.bool false,.bool false,.bool false,.bool false,.bool false,.bool false,.bool false,.bool false,.bool false,.bool false,.bool false,.bool false,.bool false,.bool false,.bool false,.bool false,.bool false,.bool false,.bool false,.bool false,.bool false,.bool false,.bool false,.bool false,.bool false,.bool false,.bool false,.bool false,.bool false,.bool false,.bool false,.bool false,.bool false,.bool false,.bool false,.bool false,.bool false,.bool false,.bool false,.bool false,.bool false,.bool false,.bool false,.bool false,.bool false,.bool false,.bool false,.bool false,.bool false,.bool false,.bool false,.bool false,.bool false,.bool false,.bool false,.bool false,.bool false,.bool false,.bool false,.bool false,.bool false,.bool false,.bool false,.bool false,.bool false,.bool false,.bool false,.bool false,.bool false,.bool false,.bool false,.bool false,.bool false,.bool false,.bool false,.bool false,.bool false,.bool false,.bool false,.bool false,.bool false,.bool false,.bool false,.bool false,.bool false,.bool false,.bool false,.bool false,.bool false,.bool false,.bool false,.bool false,.bool false,.bool false,.bool false,.bool false,.bool false,.bool false,.bool false,.bool false,.bool false,.bool false,.bool false,.bool false,.bool false,.bool false,.bool false,.bool false,.bool false,.bool false,.bool false,.bool false,.bool false,.bool false,.bool false,.bool false,.bool false,.bool false,.bool false,.bool false,.bool false,.bool false,.bool false,.bool false,.bool false,.bool false,.bool false,.bool false,.bool false,.bool false,.bool false,.bool false,.bool false,.bool false,.bool false,.bool false,.bool false,.bool false,.bool false,.bool false,.bool false,.bool false,.bool false,.bool false,.bool false,.bool false,.bool false,.bool false,.bool false,.bool false,.bool false,.bool false,.bool false,.bool false,.bool false,.bool false,.bool false,.bool false,.bool false,.bool false,.bool false,.bool false,.bool false,.bool false,.bool false,.bool false,.bool false,.bool false,.bool false,.bool false,.bool false,.bool false,.bool false,.bool false,.bool false,.bool false,.bool false,.bool false,.bool false,.bool false,.bool false,.bool false,.bool false,.bool false,.bool false,.bool false,.bool false,.bool false,.bool false,.bool false,.bool false]),o 3 (.mv (.v (.bool false)))])
 (.seq (.seq (.region [o 4 (.mv (k 0))])
 (.block 0 (.loop (.seq (.seq (.region [o 8 (.lenStr (.t 0)),o 9 (.bin .lss (.t 4) (.t 8))])
 (.cond (.t 9)
 .skip
 (.exit 0)))
 (.seq (.block 1 (.seq (.region [o 14 (.idxStr (.t 0) (.t 4)),o 5 (.mv (.t 14))])
 (.seq (.seq (.region [o 16 (.bin .geq (.t 5) (.v (.int .u8 (.ofNat 128))))])
 (.cond (.t 16)
 (.seq (.region [o 17 (.loadN 256 (.t 2)),⟨none,.store 256 (.t 2) (.t 17),none,0⟩,o 3 (.mv (.v (.bool false)))])
 .ret)
 .skip))
 (.region [o 19 (.idxAddrArr 256 1 (.t 2) (.t 5)),⟨none,.store 1 (.t 19) (.v (.bool true)),none,0⟩]))))
 (.region [o 11 (.bin .add (.t 4) (k 1)),o 4 (.mv (.t 11))]))))))
 (.seq (.region [o 20 (.loadN 256 (.t 2)),⟨none,.store 256 (.t 2) (.t 20),none,0⟩,o 3 (.mv (.v (.bool true)))])
 .ret))⟩
def e199 : T Unit := (eN (eN (eS .leaf (eS .leaf eU)) (eN eU .leaf)) (eN (eN eU .leaf) (eN .leaf (eS .leaf eU))))
def c202 : CFunc := ⟨24,[.tmp 6],.seq (.region [o 6 (.mv (k 0))])
 (.seq (.region [o 11 (.call 105 [.t 1]),o 12 (.extract 0 (.t 11)),o 13 (.extract 1 (.t 11)),o 7 (.mv (.t 12)),o 8 (.mv (.t 13))])
 (.seq (.seq (.region [o 15 (.un .not (.t 2)),g 17 (.mv (.t 8)) 15 false,g 18 (.bin .neq (.t 17) (k 0)) 15 false,o 19 (.pick (.t 15) (.v (.bool true)) (.t 18))])
 (.cond (.t 19)
 (.seq (.region [o 6 (.mv (k 2))])
 .ret)
 .skip))
 (.seq (.region [o 22 (.nilCheck (.t 0)),o 23 (.fieldAddr 1 (.t 22)),⟨none,.store 1 (.t 23) (.t 7),none,0⟩])
 (.seq (.region [o 6 (.mv (k 0))])
 .ret))))⟩
def e202 : T Unit := (eN (eN (eN eU eU) (eN (eN .leaf eU) (eN .leaf eU))) (eN (eN (eN .leaf eU) eU) .leaf))
def c203 : CFunc := ⟨44,[.tmp 6],.seq (.region [o 6 (.mv (k 0))])
 (.seq (.region [o 12 (.call 281 [.t 0,.t 1,.v (.str 5 250405147206)]),o 13 (.extract 0 (.t 12)),o 14 (.extract 1 (.t 12)),o 7 (.mv (.t 13)),o 8 (.mv (.t 14))])
 (.seq (.seq (.region [o 16 (.bin .eql (.t 8) (k 0)),g 18 (.mv (.t 0)) 16 true,g 19 (.nilCheck (.t 18)) 16 true,g 20 (.fieldAddr 2 (.t 19)) 16 true,g 21 (.fieldAddr 1 (.t 20)) 16 true,g 22 (.load1 (.t 21)) 16 true,g 23 (.bin .eql (.t 22) (.v (.str 0 0))) 16 true,o 24 (.pick (.t 16) (.t 23) (.v (.bool false))),g 26 (.mv (.t 0)) 24 true,g 27 (.nilCheck (.t 26)) 24 true,g 28 (.fieldAddr 2 (.t 27)) 24 true,g 29 (.fieldAddr 0 (.t 28)) 24 true,g 30 (.load1 (.t 29)) 24 true,g 31 (.bin .neq (.t 30) (.v (.str 0 0))) 24 true,o 32 (.pick (.t 24) (.t 31) (.v (.bool false)))])
 (.cond (.t 32)
 (.region [o 8 (.mv (k 2))])
 .skip))
 (.seq (.seq (.region [o 34 (.bin .eql (.t 8) (k 0))])
 (.cond (.t 34)
 (.region [o 38 (.call 282 [.t 7]),o 39 (.extract 0 (.t 38)),o 40 (.extract 1 (.t 38)),o 41 (.nilCheck (.t 0)),o 42 (.fieldAddr 4 (.t 41)),⟨none,.store 14 (.t 42) (.t 39),none,0⟩,o 8 (.mv (.t 40))])
 .skip))
 (.seq (.region [o 6 (.mv (.t 8))])
 .ret))))⟩
def e203 : T Unit := (eN (eN (eN .leaf eU) (eN (eN .leaf (eN .leaf eU)) .leaf)) (eN (eN (eN .leaf (eN .leaf eU)) (eS eU (eS .leaf eU))) (eN (eS (eN .leaf eU) (eN .leaf eU)) (eN .leaf eU))))
end Go.Ab.Lit
