/- A part of the proof: AbG1. -/
import Derived.Test.YtkejpghmemnhfaaGreatDoorNAA

set_option linter.unusedVariables false
set_option linter.unusedSimpArgs false

namespace Go.Ab
inductive N16 (α : Type) where
  | mk (a b c d e f g h i j k l m n o p : α)
inductive N8 (α : Type) where
  | mk (a b c d e f g h : α)
abbrev Rw := N16 AV
abbrev Fr := N16 Rw
abbrev MV := M (AV × St)
inductive KRes where
  | ok (e : Ex) (f : Fr) (st : St)
  | bad
structure KD where
  f : Fr
  base : T AObj
  bases : List (T AObj)
  pend : List (Nat × News)
  softs : Nat
  hmask : Nat
  hards : List (Nat × Nat)
  loads : List LoadR
  next : Nat
  low : Nat
  sc : List Bool
  tr : List (SB × Bool)
abbrev OD := Option KD
abbrev OL := Option (List AV)
abbrev CM := (AV → MV) → MV
abbrev CR := (AV → KRes) → KRes
abbrev YM := Rw → CM
abbrev YR := Rw → CR
abbrev VR_ := AV → (Rw → KRes) → KRes
abbrev WR_ := AV → (Fr → KRes) → KRes
noncomputable def rM0 : YM := N16.rec (motive := fun _ => CM) (fun a _ _ _ _ _ _ _ _ _ _ _ _ _ _ _ K => K a)
noncomputable def rM1 : YM := N16.rec (motive := fun _ => CM) (fun _ b _ _ _ _ _ _ _ _ _ _ _ _ _ _ K => K b)
noncomputable def rM2 : YM := N16.rec (motive := fun _ => CM) (fun _ _ c _ _ _ _ _ _ _ _ _ _ _ _ _ K => K c)
noncomputable def rM3 : YM := N16.rec (motive := fun _ => CM) (fun _ _ _ d _ _ _ _ _ _ _ _ _ _ _ _ K => K d)
noncomputable def rM4 : YM := N16.rec (motive := fun _ => CM) (fun _ _ _ _ e _ _ _ _ _ _ _ _ _ _ _ K => K e)
noncomputable def rM5 : YM := N16.rec (motive := fun _ => CM) (fun _ _ _ _ _ f _ _ _ _ _ _ _ _ _ _ K => K f)
noncomputable def rM6 : YM := N16.rec (motive := fun _ => CM) (fun _ _ _ _ _ _ g _ _ _ _ _ _ _ _ _ K => K g)
noncomputable def rM7 : YM := N16.rec (motive := fun _ => CM) (fun _ _ _ _ _ _ _ h _ _ _ _ _ _ _ _ K => K h)
noncomputable def rM8 : YM := N16.rec (motive := fun _ => CM) (fun _ _ _ _ _ _ _ _ i _ _ _ _ _ _ _ K => K i)
noncomputable def rM9 : YM := N16.rec (motive := fun _ => CM) (fun _ _ _ _ _ _ _ _ _ j _ _ _ _ _ _ K => K j)
noncomputable def rM10 : YM := N16.rec (motive := fun _ => CM) (fun _ _ _ _ _ _ _ _ _ _ k _ _ _ _ _ K => K k)
noncomputable def rM11 : YM := N16.rec (motive := fun _ => CM) (fun _ _ _ _ _ _ _ _ _ _ _ l _ _ _ _ K => K l)
noncomputable def rM12 : YM := N16.rec (motive := fun _ => CM) (fun _ _ _ _ _ _ _ _ _ _ _ _ m _ _ _ K => K m)
noncomputable def rM13 : YM := N16.rec (motive := fun _ => CM) (fun _ _ _ _ _ _ _ _ _ _ _ _ _ n _ _ K => K n)
noncomputable def rM14 : YM := N16.rec (motive := fun _ => CM) (fun _ _ _ _ _ _ _ _ _ _ _ _ _ _ o _ K => K o)
noncomputable def rM15 : YM := N16.rec (motive := fun _ => CM) (fun _ _ _ _ _ _ _ _ _ _ _ _ _ _ _ p K => K p)
noncomputable def gM0 (y : YM) (f : Fr) (K : AV → MV) : MV := N16.rec (motive := fun _ => YM → CM) (fun r _ _ _ _ _ _ _ _ _ _ _ _ _ _ _ y K => y r K) f y K
noncomputable def gM1 (y : YM) (f : Fr) (K : AV → MV) : MV := N16.rec (motive := fun _ => YM → CM) (fun _ r _ _ _ _ _ _ _ _ _ _ _ _ _ _ y K => y r K) f y K
noncomputable def gM2 (y : YM) (f : Fr) (K : AV → MV) : MV := N16.rec (motive := fun _ => YM → CM) (fun _ _ r _ _ _ _ _ _ _ _ _ _ _ _ _ y K => y r K) f y K
noncomputable def gM3 (y : YM) (f : Fr) (K : AV → MV) : MV := N16.rec (motive := fun _ => YM → CM) (fun _ _ _ r _ _ _ _ _ _ _ _ _ _ _ _ y K => y r K) f y K
noncomputable def gM4 (y : YM) (f : Fr) (K : AV → MV) : MV := N16.rec (motive := fun _ => YM → CM) (fun _ _ _ _ r _ _ _ _ _ _ _ _ _ _ _ y K => y r K) f y K
noncomputable def gM5 (y : YM) (f : Fr) (K : AV → MV) : MV := N16.rec (motive := fun _ => YM → CM) (fun _ _ _ _ _ r _ _ _ _ _ _ _ _ _ _ y K => y r K) f y K
noncomputable def gM6 (y : YM) (f : Fr) (K : AV → MV) : MV := N16.rec (motive := fun _ => YM → CM) (fun _ _ _ _ _ _ r _ _ _ _ _ _ _ _ _ y K => y r K) f y K
noncomputable def gM7 (y : YM) (f : Fr) (K : AV → MV) : MV := N16.rec (motive := fun _ => YM → CM) (fun _ _ _ _ _ _ _ r _ _ _ _ _ _ _ _ y K => y r K) f y K
noncomputable def gM8 (y : YM) (f : Fr) (K : AV → MV) : MV := N16.rec (motive := fun _ => YM → CM) (fun _ _ _ _ _ _ _ _ r _ _ _ _ _ _ _ y K => y r K) f y K
noncomputable def gM9 (y : YM) (f : Fr) (K : AV → MV) : MV := N16.rec (motive := fun _ => YM → CM) (fun _ _ _ _ _ _ _ _ _ r _ _ _ _ _ _ y K => y r K) f y K
noncomputable def gM10 (y : YM) (f : Fr) (K : AV → MV) : MV := N16.rec (motive := fun _ => YM → CM) (fun _ _ _ _ _ _ _ _ _ _ r _ _ _ _ _ y K => y r K) f y K
noncomputable def gM11 (y : YM) (f : Fr) (K : AV → MV) : MV := N16.rec (motive := fun _ => YM → CM) (fun _ _ _ _ _ _ _ _ _ _ _ r _ _ _ _ y K => y r K) f y K
noncomputable def gM12 (y : YM) (f : Fr) (K : AV → MV) : MV := N16.rec (motive := fun _ => YM → CM) (fun _ _ _ _ _ _ _ _ _ _ _ _ r _ _ _ y K => y r K) f y K
noncomputable def gM13 (y : YM) (f : Fr) (K : AV → MV) : MV := N16.rec (motive := fun _ => YM → CM) (fun _ _ _ _ _ _ _ _ _ _ _ _ _ r _ _ y K => y r K) f y K
noncomputable def gM14 (y : YM) (f : Fr) (K : AV → MV) : MV := N16.rec (motive := fun _ => YM → CM) (fun _ _ _ _ _ _ _ _ _ _ _ _ _ _ r _ y K => y r K) f y K
noncomputable def gM15 (y : YM) (f : Fr) (K : AV → MV) : MV := N16.rec (motive := fun _ => YM → CM) (fun _ _ _ _ _ _ _ _ _ _ _ _ _ _ _ r y K => y r K) f y K
noncomputable def rM : Nat → Rw → (AV → MV) → MV
  | 0 => rM0
  | 1 => rM1
  | 2 => rM2
  | 3 => rM3
  | 4 => rM4
  | 5 => rM5
  | 6 => rM6
  | 7 => rM7
  | 8 => rM8
  | 9 => rM9
  | 10 => rM10
  | 11 => rM11
  | 12 => rM12
  | 13 => rM13
  | 14 => rM14
  | _ => rM15
noncomputable def gM : Nat → (Rw → (AV → MV) → MV) → Fr → (AV → MV) → MV
  | 0 => gM0
  | 1 => gM1
  | 2 => gM2
  | 3 => gM3
  | 4 => gM4
  | 5 => gM5
  | 6 => gM6
  | 7 => gM7
  | 8 => gM8
  | 9 => gM9
  | 10 => gM10
  | 11 => gM11
  | 12 => gM12
  | 13 => gM13
  | 14 => gM14
  | _ => gM15
noncomputable def rR0 : YR := N16.rec (motive := fun _ => CR) (fun a _ _ _ _ _ _ _ _ _ _ _ _ _ _ _ K => K a)
noncomputable def rR1 : YR := N16.rec (motive := fun _ => CR) (fun _ b _ _ _ _ _ _ _ _ _ _ _ _ _ _ K => K b)
noncomputable def rR2 : YR := N16.rec (motive := fun _ => CR) (fun _ _ c _ _ _ _ _ _ _ _ _ _ _ _ _ K => K c)
noncomputable def rR3 : YR := N16.rec (motive := fun _ => CR) (fun _ _ _ d _ _ _ _ _ _ _ _ _ _ _ _ K => K d)
noncomputable def rR4 : YR := N16.rec (motive := fun _ => CR) (fun _ _ _ _ e _ _ _ _ _ _ _ _ _ _ _ K => K e)
noncomputable def rR5 : YR := N16.rec (motive := fun _ => CR) (fun _ _ _ _ _ f _ _ _ _ _ _ _ _ _ _ K => K f)
noncomputable def rR6 : YR := N16.rec (motive := fun _ => CR) (fun _ _ _ _ _ _ g _ _ _ _ _ _ _ _ _ K => K g)
noncomputable def rR7 : YR := N16.rec (motive := fun _ => CR) (fun _ _ _ _ _ _ _ h _ _ _ _ _ _ _ _ K => K h)
noncomputable def rR8 : YR := N16.rec (motive := fun _ => CR) (fun _ _ _ _ _ _ _ _ i _ _ _ _ _ _ _ K => K i)
noncomputable def rR9 : YR := N16.rec (motive := fun _ => CR) (fun _ _ _ _ _ _ _ _ _ j _ _ _ _ _ _ K => K j)
noncomputable def rR10 : YR := N16.rec (motive := fun _ => CR) (fun _ _ _ _ _ _ _ _ _ _ k _ _ _ _ _ K => K k)
noncomputable def rR11 : YR := N16.rec (motive := fun _ => CR) (fun _ _ _ _ _ _ _ _ _ _ _ l _ _ _ _ K => K l)
noncomputable def rR12 : YR := N16.rec (motive := fun _ => CR) (fun _ _ _ _ _ _ _ _ _ _ _ _ m _ _ _ K => K m)
noncomputable def rR13 : YR := N16.rec (motive := fun _ => CR) (fun _ _ _ _ _ _ _ _ _ _ _ _ _ n _ _ K => K n)
noncomputable def rR14 : YR := N16.rec (motive := fun _ => CR) (fun _ _ _ _ _ _ _ _ _ _ _ _ _ _ o _ K => K o)
noncomputable def rR15 : YR := N16.rec (motive := fun _ => CR) (fun _ _ _ _ _ _ _ _ _ _ _ _ _ _ _ p K => K p)
noncomputable def gR0 (y : YR) (f : Fr) (K : AV → KRes) : KRes := N16.rec (motive := fun _ => YR → CR) (fun r _ _ _ _ _ _ _ _ _ _ _ _ _ _ _ y K => y r K) f y K
noncomputable def gR1 (y : YR) (f : Fr) (K : AV → KRes) : KRes := N16.rec (motive := fun _ => YR → CR) (fun _ r _ _ _ _ _ _ _ _ _ _ _ _ _ _ y K => y r K) f y K
noncomputable def gR2 (y : YR) (f : Fr) (K : AV → KRes) : KRes := N16.rec (motive := fun _ => YR → CR) (fun _ _ r _ _ _ _ _ _ _ _ _ _ _ _ _ y K => y r K) f y K
noncomputable def gR3 (y : YR) (f : Fr) (K : AV → KRes) : KRes := N16.rec (motive := fun _ => YR → CR) (fun _ _ _ r _ _ _ _ _ _ _ _ _ _ _ _ y K => y r K) f y K
noncomputable def gR4 (y : YR) (f : Fr) (K : AV → KRes) : KRes := N16.rec (motive := fun _ => YR → CR) (fun _ _ _ _ r _ _ _ _ _ _ _ _ _ _ _ y K => y r K) f y K
noncomputable def gR5 (y : YR) (f : Fr) (K : AV → KRes) : KRes := N16.rec (motive := fun _ => YR → CR) (fun _ _ _ _ _ r _ _ _ _ _ _ _ _ _ _ y K => y r K) f y K
noncomputable def gR6 (y : YR) (f : Fr) (K : AV → KRes) : KRes := N16.rec (motive := fun _ => YR → CR) (fun _ _ _ _ _ _ r _ _ _ _ _ _ _ _ _ y K => y r K) f y K
noncomputable def gR7 (y : YR) (f : Fr) (K : AV → KRes) : KRes := N16.rec (motive := fun _ => YR → CR) (fun _ _ _ _ _ _ _ r _ _ _ _ _ _ _ _ y K => y r K) f y K
noncomputable def gR8 (y : YR) (f : Fr) (K : AV → KRes) : KRes := N16.rec (motive := fun _ => YR → CR) (fun _ _ _ _ _ _ _ _ r _ _ _ _ _ _ _ y K => y r K) f y K
noncomputable def gR9 (y : YR) (f : Fr) (K : AV → KRes) : KRes := N16.rec (motive := fun _ => YR → CR) (fun _ _ _ _ _ _ _ _ _ r _ _ _ _ _ _ y K => y r K) f y K
noncomputable def gR10 (y : YR) (f : Fr) (K : AV → KRes) : KRes := N16.rec (motive := fun _ => YR → CR) (fun _ _ _ _ _ _ _ _ _ _ r _ _ _ _ _ y K => y r K) f y K
noncomputable def gR11 (y : YR) (f : Fr) (K : AV → KRes) : KRes := N16.rec (motive := fun _ => YR → CR) (fun _ _ _ _ _ _ _ _ _ _ _ r _ _ _ _ y K => y r K) f y K
noncomputable def gR12 (y : YR) (f : Fr) (K : AV → KRes) : KRes := N16.rec (motive := fun _ => YR → CR) (fun _ _ _ _ _ _ _ _ _ _ _ _ r _ _ _ y K => y r K) f y K
noncomputable def gR13 (y : YR) (f : Fr) (K : AV → KRes) : KRes := N16.rec (motive := fun _ => YR → CR) (fun _ _ _ _ _ _ _ _ _ _ _ _ _ r _ _ y K => y r K) f y K
noncomputable def gR14 (y : YR) (f : Fr) (K : AV → KRes) : KRes := N16.rec (motive := fun _ => YR → CR) (fun _ _ _ _ _ _ _ _ _ _ _ _ _ _ r _ y K => y r K) f y K
noncomputable def gR15 (y : YR) (f : Fr) (K : AV → KRes) : KRes := N16.rec (motive := fun _ => YR → CR) (fun _ _ _ _ _ _ _ _ _ _ _ _ _ _ _ r y K => y r K) f y K
noncomputable def rR : Nat → Rw → (AV → KRes) → KRes
  | 0 => rR0
  | 1 => rR1
  | 2 => rR2
  | 3 => rR3
  | 4 => rR4
  | 5 => rR5
  | 6 => rR6
  | 7 => rR7
  | 8 => rR8
  | 9 => rR9
  | 10 => rR10
  | 11 => rR11
  | 12 => rR12
  | 13 => rR13
  | 14 => rR14
  | _ => rR15
noncomputable def gR : Nat → (Rw → (AV → KRes) → KRes) → Fr → (AV → KRes) → KRes
  | 0 => gR0
  | 1 => gR1
  | 2 => gR2
  | 3 => gR3
  | 4 => gR4
  | 5 => gR5
  | 6 => gR6
  | 7 => gR7
  | 8 => gR8
  | 9 => gR9
  | 10 => gR10
  | 11 => gR11
  | 12 => gR12
  | 13 => gR13
  | 14 => gR14
  | _ => gR15
noncomputable def uR0 : Rw → VR_ := N16.rec (motive := fun _ => VR_) (fun _ b c d e f g h i j k l m n o p v K => K (.mk v b c d e f g h i j k l m n o p))
noncomputable def uR1 : Rw → VR_ := N16.rec (motive := fun _ => VR_) (fun a _ c d e f g h i j k l m n o p v K => K (.mk a v c d e f g h i j k l m n o p))
noncomputable def uR2 : Rw → VR_ := N16.rec (motive := fun _ => VR_) (fun a b _ d e f g h i j k l m n o p v K => K (.mk a b v d e f g h i j k l m n o p))
noncomputable def uR3 : Rw → VR_ := N16.rec (motive := fun _ => VR_) (fun a b c _ e f g h i j k l m n o p v K => K (.mk a b c v e f g h i j k l m n o p))
noncomputable def uR4 : Rw → VR_ := N16.rec (motive := fun _ => VR_) (fun a b c d _ f g h i j k l m n o p v K => K (.mk a b c d v f g h i j k l m n o p))
noncomputable def uR5 : Rw → VR_ := N16.rec (motive := fun _ => VR_) (fun a b c d e _ g h i j k l m n o p v K => K (.mk a b c d e v g h i j k l m n o p))
noncomputable def uR6 : Rw → VR_ := N16.rec (motive := fun _ => VR_) (fun a b c d e f _ h i j k l m n o p v K => K (.mk a b c d e f v h i j k l m n o p))
noncomputable def uR7 : Rw → VR_ := N16.rec (motive := fun _ => VR_) (fun a b c d e f g _ i j k l m n o p v K => K (.mk a b c d e f g v i j k l m n o p))
noncomputable def uR8 : Rw → VR_ := N16.rec (motive := fun _ => VR_) (fun a b c d e f g h _ j k l m n o p v K => K (.mk a b c d e f g h v j k l m n o p))
noncomputable def uR9 : Rw → VR_ := N16.rec (motive := fun _ => VR_) (fun a b c d e f g h i _ k l m n o p v K => K (.mk a b c d e f g h i v k l m n o p))
noncomputable def uR10 : Rw → VR_ := N16.rec (motive := fun _ => VR_) (fun a b c d e f g h i j _ l m n o p v K => K (.mk a b c d e f g h i j v l m n o p))
noncomputable def uR11 : Rw → VR_ := N16.rec (motive := fun _ => VR_) (fun a b c d e f g h i j k _ m n o p v K => K (.mk a b c d e f g h i j k v m n o p))
noncomputable def uR12 : Rw → VR_ := N16.rec (motive := fun _ => VR_) (fun a b c d e f g h i j k l _ n o p v K => K (.mk a b c d e f g h i j k l v n o p))
noncomputable def uR13 : Rw → VR_ := N16.rec (motive := fun _ => VR_) (fun a b c d e f g h i j k l m _ o p v K => K (.mk a b c d e f g h i j k l m v o p))
noncomputable def uR14 : Rw → VR_ := N16.rec (motive := fun _ => VR_) (fun a b c d e f g h i j k l m n _ p v K => K (.mk a b c d e f g h i j k l m n v p))
noncomputable def uR15 : Rw → VR_ := N16.rec (motive := fun _ => VR_) (fun a b c d e f g h i j k l m n o _ v K => K (.mk a b c d e f g h i j k l m n o v))
noncomputable def wR0 (y : Rw → VR_) (f : Fr) (v : AV) (K : Fr → KRes) : KRes := N16.rec (motive := fun _ => (Rw → VR_) → WR_) (fun a b c d e f g h i j k l m n o p y v K => y a v fun r => K (.mk r b c d e f g h i j k l m n o p)) f y v K
noncomputable def wR1 (y : Rw → VR_) (f : Fr) (v : AV) (K : Fr → KRes) : KRes := N16.rec (motive := fun _ => (Rw → VR_) → WR_) (fun a b c d e f g h i j k l m n o p y v K => y b v fun r => K (.mk a r c d e f g h i j k l m n o p)) f y v K
noncomputable def wR2 (y : Rw → VR_) (f : Fr) (v : AV) (K : Fr → KRes) : KRes := N16.rec (motive := fun _ => (Rw → VR_) → WR_) (fun a b c d e f g h i j k l m n o p y v K => y c v fun r => K (.mk a b r d e f g h i j k l m n o p)) f y v K
noncomputable def wR3 (y : Rw → VR_) (f : Fr) (v : AV) (K : Fr → KRes) : KRes := N16.rec (motive := fun _ => (Rw → VR_) → WR_) (fun a b c d e f g h i j k l m n o p y v K => y d v fun r => K (.mk a b c r e f g h i j k l m n o p)) f y v K
noncomputable def wR4 (y : Rw → VR_) (f : Fr) (v : AV) (K : Fr → KRes) : KRes := N16.rec (motive := fun _ => (Rw → VR_) → WR_) (fun a b c d e f g h i j k l m n o p y v K => y e v fun r => K (.mk a b c d r f g h i j k l m n o p)) f y v K
noncomputable def wR5 (y : Rw → VR_) (f : Fr) (v : AV) (K : Fr → KRes) : KRes := N16.rec (motive := fun _ => (Rw → VR_) → WR_) (fun a b c d e f g h i j k l m n o p y v K => y f v fun r => K (.mk a b c d e r g h i j k l m n o p)) f y v K
noncomputable def wR6 (y : Rw → VR_) (f : Fr) (v : AV) (K : Fr → KRes) : KRes := N16.rec (motive := fun _ => (Rw → VR_) → WR_) (fun a b c d e f g h i j k l m n o p y v K => y g v fun r => K (.mk a b c d e f r h i j k l m n o p)) f y v K
noncomputable def wR7 (y : Rw → VR_) (f : Fr) (v : AV) (K : Fr → KRes) : KRes := N16.rec (motive := fun _ => (Rw → VR_) → WR_) (fun a b c d e f g h i j k l m n o p y v K => y h v fun r => K (.mk a b c d e f g r i j k l m n o p)) f y v K
noncomputable def wR8 (y : Rw → VR_) (f : Fr) (v : AV) (K : Fr → KRes) : KRes := N16.rec (motive := fun _ => (Rw → VR_) → WR_) (fun a b c d e f g h i j k l m n o p y v K => y i v fun r => K (.mk a b c d e f g h r j k l m n o p)) f y v K
noncomputable def wR9 (y : Rw → VR_) (f : Fr) (v : AV) (K : Fr → KRes) : KRes := N16.rec (motive := fun _ => (Rw → VR_) → WR_) (fun a b c d e f g h i j k l m n o p y v K => y j v fun r => K (.mk a b c d e f g h i r k l m n o p)) f y v K
noncomputable def wR10 (y : Rw → VR_) (f : Fr) (v : AV) (K : Fr → KRes) : KRes := N16.rec (motive := fun _ => (Rw → VR_) → WR_) (fun a b c d e f g h i j k l m n o p y v K => y k v fun r => K (.mk a b c d e f g h i j r l m n o p)) f y v K
noncomputable def wR11 (y : Rw → VR_) (f : Fr) (v : AV) (K : Fr → KRes) : KRes := N16.rec (motive := fun _ => (Rw → VR_) → WR_) (fun a b c d e f g h i j k l m n o p y v K => y l v fun r => K (.mk a b c d e f g h i j k r m n o p)) f y v K
noncomputable def wR12 (y : Rw → VR_) (f : Fr) (v : AV) (K : Fr → KRes) : KRes := N16.rec (motive := fun _ => (Rw → VR_) → WR_) (fun a b c d e f g h i j k l m n o p y v K => y m v fun r => K (.mk a b c d e f g h i j k l r n o p)) f y v K
noncomputable def wR13 (y : Rw → VR_) (f : Fr) (v : AV) (K : Fr → KRes) : KRes := N16.rec (motive := fun _ => (Rw → VR_) → WR_) (fun a b c d e f g h i j k l m n o p y v K => y n v fun r => K (.mk a b c d e f g h i j k l m r o p)) f y v K
noncomputable def wR14 (y : Rw → VR_) (f : Fr) (v : AV) (K : Fr → KRes) : KRes := N16.rec (motive := fun _ => (Rw → VR_) → WR_) (fun a b c d e f g h i j k l m n o p y v K => y o v fun r => K (.mk a b c d e f g h i j k l m n r p)) f y v K
noncomputable def wR15 (y : Rw → VR_) (f : Fr) (v : AV) (K : Fr → KRes) : KRes := N16.rec (motive := fun _ => (Rw → VR_) → WR_) (fun a b c d e f g h i j k l m n o p y v K => y p v fun r => K (.mk a b c d e f g h i j k l m n o r)) f y v K
noncomputable def uR : Nat → Rw → AV → (Rw → KRes) → KRes
  | 0 => uR0
  | 1 => uR1
  | 2 => uR2
  | 3 => uR3
  | 4 => uR4
  | 5 => uR5
  | 6 => uR6
  | 7 => uR7
  | 8 => uR8
  | 9 => uR9
  | 10 => uR10
  | 11 => uR11
  | 12 => uR12
  | 13 => uR13
  | 14 => uR14
  | _ => uR15
noncomputable def wR : Nat → (Rw → AV → (Rw → KRes) → KRes) → Fr → AV → (Fr → KRes) → KRes
  | 0 => wR0
  | 1 => wR1
  | 2 => wR2
  | 3 => wR3
  | 4 => wR4
  | 5 => wR5
  | 6 => wR6
  | 7 => wR7
  | 8 => wR8
  | 9 => wR9
  | 10 => wR10
  | 11 => wR11
  | 12 => wR12
  | 13 => wR13
  | 14 => wR14
  | _ => wR15
noncomputable def sl0 {α β : Type} (x : N16 α) (K : α → β) : β := N16.rec (fun a _ _ _ _ _ _ _ _ _ _ _ _ _ _ _ => K a) x
noncomputable def sl1 {α β : Type} (x : N16 α) (K : α → β) : β := N16.rec (fun _ b _ _ _ _ _ _ _ _ _ _ _ _ _ _ => K b) x
noncomputable def sl2 {α β : Type} (x : N16 α) (K : α → β) : β := N16.rec (fun _ _ c _ _ _ _ _ _ _ _ _ _ _ _ _ => K c) x
noncomputable def sl3 {α β : Type} (x : N16 α) (K : α → β) : β := N16.rec (fun _ _ _ d _ _ _ _ _ _ _ _ _ _ _ _ => K d) x
noncomputable def sl4 {α β : Type} (x : N16 α) (K : α → β) : β := N16.rec (fun _ _ _ _ e _ _ _ _ _ _ _ _ _ _ _ => K e) x
noncomputable def sl5 {α β : Type} (x : N16 α) (K : α → β) : β := N16.rec (fun _ _ _ _ _ f _ _ _ _ _ _ _ _ _ _ => K f) x
noncomputable def sl6 {α β : Type} (x : N16 α) (K : α → β) : β := N16.rec (fun _ _ _ _ _ _ g _ _ _ _ _ _ _ _ _ => K g) x
noncomputable def sl7 {α β : Type} (x : N16 α) (K : α → β) : β := N16.rec (fun _ _ _ _ _ _ _ h _ _ _ _ _ _ _ _ => K h) x
noncomputable def sl8 {α β : Type} (x : N16 α) (K : α → β) : β := N16.rec (fun _ _ _ _ _ _ _ _ i _ _ _ _ _ _ _ => K i) x
noncomputable def sl9 {α β : Type} (x : N16 α) (K : α → β) : β := N16.rec (fun _ _ _ _ _ _ _ _ _ j _ _ _ _ _ _ => K j) x
noncomputable def sl10 {α β : Type} (x : N16 α) (K : α → β) : β := N16.rec (fun _ _ _ _ _ _ _ _ _ _ k _ _ _ _ _ => K k) x
noncomputable def sl11 {α β : Type} (x : N16 α) (K : α → β) : β := N16.rec (fun _ _ _ _ _ _ _ _ _ _ _ l _ _ _ _ => K l) x
noncomputable def sl12 {α β : Type} (x : N16 α) (K : α → β) : β := N16.rec (fun _ _ _ _ _ _ _ _ _ _ _ _ m _ _ _ => K m) x
noncomputable def sl13 {α β : Type} (x : N16 α) (K : α → β) : β := N16.rec (fun _ _ _ _ _ _ _ _ _ _ _ _ _ n _ _ => K n) x
noncomputable def sl14 {α β : Type} (x : N16 α) (K : α → β) : β := N16.rec (fun _ _ _ _ _ _ _ _ _ _ _ _ _ _ o _ => K o) x
noncomputable def sl15 {α β : Type} (x : N16 α) (K : α → β) : β := N16.rec (fun _ _ _ _ _ _ _ _ _ _ _ _ _ _ _ p => K p) x
noncomputable def up0 {α β : Type} (x : N16 α) (v : α) (K : N16 α → β) : β := N16.rec (fun _ b c d e f g h i j k l m n o p => K (.mk v b c d e f g h i j k l m n o p)) x
noncomputable def up1 {α β : Type} (x : N16 α) (v : α) (K : N16 α → β) : β := N16.rec (fun a _ c d e f g h i j k l m n o p => K (.mk a v c d e f g h i j k l m n o p)) x
noncomputable def up2 {α β : Type} (x : N16 α) (v : α) (K : N16 α → β) : β := N16.rec (fun a b _ d e f g h i j k l m n o p => K (.mk a b v d e f g h i j k l m n o p)) x
noncomputable def up3 {α β : Type} (x : N16 α) (v : α) (K : N16 α → β) : β := N16.rec (fun a b c _ e f g h i j k l m n o p => K (.mk a b c v e f g h i j k l m n o p)) x
noncomputable def up4 {α β : Type} (x : N16 α) (v : α) (K : N16 α → β) : β := N16.rec (fun a b c d _ f g h i j k l m n o p => K (.mk a b c d v f g h i j k l m n o p)) x
noncomputable def up5 {α β : Type} (x : N16 α) (v : α) (K : N16 α → β) : β := N16.rec (fun a b c d e _ g h i j k l m n o p => K (.mk a b c d e v g h i j k l m n o p)) x
noncomputable def up6 {α β : Type} (x : N16 α) (v : α) (K : N16 α → β) : β := N16.rec (fun a b c d e f _ h i j k l m n o p => K (.mk a b c d e f v h i j k l m n o p)) x
noncomputable def up7 {α β : Type} (x : N16 α) (v : α) (K : N16 α → β) : β := N16.rec (fun a b c d e f g _ i j k l m n o p => K (.mk a b c d e f g v i j k l m n o p)) x
noncomputable def up8 {α β : Type} (x : N16 α) (v : α) (K : N16 α → β) : β := N16.rec (fun a b c d e f g h _ j k l m n o p => K (.mk a b c d e f g h v j k l m n o p)) x
noncomputable def up9 {α β : Type} (x : N16 α) (v : α) (K : N16 α → β) : β := N16.rec (fun a b c d e f g h i _ k l m n o p => K (.mk a b c d e f g h i v k l m n o p)) x
noncomputable def up10 {α β : Type} (x : N16 α) (v : α) (K : N16 α → β) : β := N16.rec (fun a b c d e f g h i j _ l m n o p => K (.mk a b c d e f g h i j v l m n o p)) x
noncomputable def up11 {α β : Type} (x : N16 α) (v : α) (K : N16 α → β) : β := N16.rec (fun a b c d e f g h i j k _ m n o p => K (.mk a b c d e f g h i j k v m n o p)) x
noncomputable def up12 {α β : Type} (x : N16 α) (v : α) (K : N16 α → β) : β := N16.rec (fun a b c d e f g h i j k l _ n o p => K (.mk a b c d e f g h i j k l v n o p)) x
noncomputable def up13 {α β : Type} (x : N16 α) (v : α) (K : N16 α → β) : β := N16.rec (fun a b c d e f g h i j k l m _ o p => K (.mk a b c d e f g h i j k l m v o p)) x
noncomputable def up14 {α β : Type} (x : N16 α) (v : α) (K : N16 α → β) : β := N16.rec (fun a b c d e f g h i j k l m n _ p => K (.mk a b c d e f g h i j k l m n v p)) x
noncomputable def up15 {α β : Type} (x : N16 α) (v : α) (K : N16 α → β) : β := N16.rec (fun a b c d e f g h i j k l m n o _ => K (.mk a b c d e f g h i j k l m n o v)) x
noncomputable def selK {α β : Type} : Nat → N16 α → (α → β) → β
  | 0 => sl0
  | 1 => sl1
  | 2 => sl2
  | 3 => sl3
  | 4 => sl4
  | 5 => sl5
  | 6 => sl6
  | 7 => sl7
  | 8 => sl8
  | 9 => sl9
  | 10 => sl10
  | 11 => sl11
  | 12 => sl12
  | 13 => sl13
  | 14 => sl14
  | _ => sl15
noncomputable def updK {α β : Type} : Nat → N16 α → α → (N16 α → β) → β
  | 0 => up0
  | 1 => up1
  | 2 => up2
  | 3 => up3
  | 4 => up4
  | 5 => up5
  | 6 => up6
  | 7 => up7
  | 8 => up8
  | 9 => up9
  | 10 => up10
  | 11 => up11
  | 12 => up12
  | 13 => up13
  | 14 => up14
  | _ => up15
noncomputable def gg {β : Type} (x : Fr → (Rw → β) → β) (y : Rw → (AV → β) → β) (f : Fr) (K : AV → β) : β := x f fun r => y r K
noncomputable def ww {β : Type} (x : Fr → (Rw → β) → β) (y : Rw → AV → (Rw → β) → β) (z : Fr → Rw → (Fr → β) → β) (f : Fr) (v : AV) (K : Fr → β) : β := x f fun r => y r v fun r => z f r K
noncomputable def gt {β : Type} (t : Nat) : Fr → (AV → β) → β := gg (selK (t / 16)) (selK (t % 16))
noncomputable def wt {β : Type} (t : Nat) : Fr → AV → (Fr → β) → β := ww (selK (t / 16)) (updK (t % 16)) (updK (t / 16))
noncomputable def frOf (g : Nat → AV) : Fr := .mk (.mk (g 0) (g 1) (g 2) (g 3) (g 4) (g 5) (g 6) (g 7) (g 8) (g 9) (g 10) (g 11) (g 12) (g 13) (g 14) (g 15)) (.mk (g 16) (g 17) (g 18) (g 19) (g 20) (g 21) (g 22) (g 23) (g 24) (g 25) (g 26) (g 27) (g 28) (g 29) (g 30) (g 31)) (.mk (g 32) (g 33) (g 34) (g 35) (g 36) (g 37) (g 38) (g 39) (g 40) (g 41) (g 42) (g 43) (g 44) (g 45) (g 46) (g 47)) (.mk (g 48) (g 49) (g 50) (g 51) (g 52) (g 53) (g 54) (g 55) (g 56) (g 57) (g 58) (g 59) (g 60) (g 61) (g 62) (g 63)) (.mk (g 64) (g 65) (g 66) (g 67) (g 68) (g 69) (g 70) (g 71) (g 72) (g 73) (g 74) (g 75) (g 76) (g 77) (g 78) (g 79)) (.mk (g 80) (g 81) (g 82) (g 83) (g 84) (g 85) (g 86) (g 87) (g 88) (g 89) (g 90) (g 91) (g 92) (g 93) (g 94) (g 95)) (.mk (g 96) (g 97) (g 98) (g 99) (g 100) (g 101) (g 102) (g 103) (g 104) (g 105) (g 106) (g 107) (g 108) (g 109) (g 110) (g 111)) (.mk (g 112) (g 113) (g 114) (g 115) (g 116) (g 117) (g 118) (g 119) (g 120) (g 121) (g 122) (g 123) (g 124) (g 125) (g 126) (g 127)) (.mk (g 128) (g 129) (g 130) (g 131) (g 132) (g 133) (g 134) (g 135) (g 136) (g 137) (g 138) (g 139) (g 140) (g 141) (g 142) (g 143)) (.mk (g 144) (g 145) (g 146) (g 147) (g 148) (g 149) (g 150) (g 151) (g 152) (g 153) (g 154) (g 155) (g 156) (g 157) (g 158) (g 159)) (.mk (g 160) (g 161) (g 162) (g 163) (g 164) (g 165) (g 166) (g 167) (g 168) (g 169) (g 170) (g 171) (g 172) (g 173) (g 174) (g 175)) (.mk (g 176) (g 177) (g 178) (g 179) (g 180) (g 181) (g 182) (g 183) (g 184) (g 185) (g 186) (g 187) (g 188) (g 189) (g 190) (g 191)) (.mk (g 192) (g 193) (g 194) (g 195) (g 196) (g 197) (g 198) (g 199) (g 200) (g 201) (g 202) (g 203) (g 204) (g 205) (g 206) (g 207)) (.mk (g 208) (g 209) (g 210) (g 211) (g 212) (g 213) (g 214) (g 215) (g 216) (g 217) (g 218) (g 219) (g 220) (g 221) (g 222) (g 223)) (.mk (g 224) (g 225) (g 226) (g 227) (g 228) (g 229) (g 230) (g 231) (g 232) (g 233) (g 234) (g 235) (g 236) (g 237) (g 238) (g 239)) (.mk (g 240) (g 241) (g 242) (g 243) (g 244) (g 245) (g 246) (g 247) (g 248) (g 249) (g 250) (g 251) (g 252) (g 253) (g 254) (g 255))
noncomputable def fr0 : Rw := .mk .any .any .any .any .any .any .any .any .any .any .any .any .any .any .any .any
noncomputable def fa16 : List AV → AV → AV → AV → AV → AV → AV → AV → AV → AV → AV → AV → AV → AV → AV → AV → AV → (Fr → MV) → MV := List.rec (motive := fun _ => AV → AV → AV → AV → AV → AV → AV → AV → AV → AV → AV → AV → AV → AV → AV → AV → (Fr → MV) → MV) (fun x0 x1 x2 x3 x4 x5 x6 x7 x8 x9 x10 x11 x12 x13 x14 x15 K => K (.mk (.mk x0 x1 x2 x3 x4 x5 x6 x7 x8 x9 x10 x11 x12 x13 x14 x15) fr0 fr0 fr0 fr0 fr0 fr0 fr0 fr0 fr0 fr0 fr0 fr0 fr0 fr0 fr0)) (fun _ _ _ x0 x1 x2 x3 x4 x5 x6 x7 x8 x9 x10 x11 x12 x13 x14 x15 K => K (.mk (.mk x0 x1 x2 x3 x4 x5 x6 x7 x8 x9 x10 x11 x12 x13 x14 x15) fr0 fr0 fr0 fr0 fr0 fr0 fr0 fr0 fr0 fr0 fr0 fr0 fr0 fr0 fr0))
noncomputable def fa15 : List AV → AV → AV → AV → AV → AV → AV → AV → AV → AV → AV → AV → AV → AV → AV → AV → (Fr → MV) → MV := List.rec (motive := fun _ => AV → AV → AV → AV → AV → AV → AV → AV → AV → AV → AV → AV → AV → AV → AV → (Fr → MV) → MV) (fun x0 x1 x2 x3 x4 x5 x6 x7 x8 x9 x10 x11 x12 x13 x14 K => K (.mk (.mk x0 x1 x2 x3 x4 x5 x6 x7 x8 x9 x10 x11 x12 x13 x14 .any) fr0 fr0 fr0 fr0 fr0 fr0 fr0 fr0 fr0 fr0 fr0 fr0 fr0 fr0 fr0)) (fun a l _ x0 x1 x2 x3 x4 x5 x6 x7 x8 x9 x10 x11 x12 x13 x14 K => fa16 l x0 x1 x2 x3 x4 x5 x6 x7 x8 x9 x10 x11 x12 x13 x14 a K)
noncomputable def fa14 : List AV → AV → AV → AV → AV → AV → AV → AV → AV → AV → AV → AV → AV → AV → AV → (Fr → MV) → MV := List.rec (motive := fun _ => AV → AV → AV → AV → AV → AV → AV → AV → AV → AV → AV → AV → AV → AV → (Fr → MV) → MV) (fun x0 x1 x2 x3 x4 x5 x6 x7 x8 x9 x10 x11 x12 x13 K => K (.mk (.mk x0 x1 x2 x3 x4 x5 x6 x7 x8 x9 x10 x11 x12 x13 .any .any) fr0 fr0 fr0 fr0 fr0 fr0 fr0 fr0 fr0 fr0 fr0 fr0 fr0 fr0 fr0)) (fun a l _ x0 x1 x2 x3 x4 x5 x6 x7 x8 x9 x10 x11 x12 x13 K => fa15 l x0 x1 x2 x3 x4 x5 x6 x7 x8 x9 x10 x11 x12 x13 a K)
noncomputable def fa13 : List AV → AV → AV → AV → AV → AV → AV → AV → AV → AV → AV → AV → AV → AV → (Fr → MV) → MV := List.rec (motive := fun _ => AV → AV → AV → AV → AV → AV → AV → AV → AV → AV → AV → AV → AV → (Fr → MV) → MV) (fun x0 x1 x2 x3 x4 x5 x6 x7 x8 x9 x10 x11 x12 K => K (.mk (.mk x0 x1 x2 x3 x4 x5 x6 x7 x8 x9 x10 x11 x12 .any .any .any) fr0 fr0 fr0 fr0 fr0 fr0 fr0 fr0 fr0 fr0 fr0 fr0 fr0 fr0 fr0)) (fun a l _ x0 x1 x2 x3 x4 x5 x6 x7 x8 x9 x10 x11 x12 K => fa14 l x0 x1 x2 x3 x4 x5 x6 x7 x8 x9 x10 x11 x12 a K)
noncomputable def fa12 : List AV → AV → AV → AV → AV → AV → AV → AV → AV → AV → AV → AV → AV → (Fr → MV) → MV := List.rec (motive := fun _ => AV → AV → AV → AV → AV → AV → AV → AV → AV → AV → AV → AV → (Fr → MV) → MV) (fun x0 x1 x2 x3 x4 x5 x6 x7 x8 x9 x10 x11 K => K (.mk (.mk x0 x1 x2 x3 x4 x5 x6 x7 x8 x9 x10 x11 .any .any .any .any) fr0 fr0 fr0 fr0 fr0 fr0 fr0 fr0 fr0 fr0 fr0 fr0 fr0 fr0 fr0)) (fun a l _ x0 x1 x2 x3 x4 x5 x6 x7 x8 x9 x10 x11 K => fa13 l x0 x1 x2 x3 x4 x5 x6 x7 x8 x9 x10 x11 a K)
noncomputable def fa11 : List AV → AV → AV → AV → AV → AV → AV → AV → AV → AV → AV → AV → (Fr → MV) → MV := List.rec (motive := fun _ => AV → AV → AV → AV → AV → AV → AV → AV → AV → AV → AV → (Fr → MV) → MV) (fun x0 x1 x2 x3 x4 x5 x6 x7 x8 x9 x10 K => K (.mk (.mk x0 x1 x2 x3 x4 x5 x6 x7 x8 x9 x10 .any .any .any .any .any) fr0 fr0 fr0 fr0 fr0 fr0 fr0 fr0 fr0 fr0 fr0 fr0 fr0 fr0 fr0)) (fun a l _ x0 x1 x2 x3 x4 x5 x6 x7 x8 x9 x10 K => fa12 l x0 x1 x2 x3 x4 x5 x6 x7 x8 x9 x10 a K)
noncomputable def fa10 : List AV → AV → AV → AV → AV → AV → AV → AV → AV → AV → AV → (Fr → MV) → MV := List.rec (motive := fun _ => AV → AV → AV → AV → AV → AV → AV → AV → AV → AV → (Fr → MV) → MV) (fun x0 x1 x2 x3 x4 x5 x6 x7 x8 x9 K => K (.mk (.mk x0 x1 x2 x3 x4 x5 x6 x7 x8 x9 .any .any .any .any .any .any) fr0 fr0 fr0 fr0 fr0 fr0 fr0 fr0 fr0 fr0 fr0 fr0 fr0 fr0 fr0)) (fun a l _ x0 x1 x2 x3 x4 x5 x6 x7 x8 x9 K => fa11 l x0 x1 x2 x3 x4 x5 x6 x7 x8 x9 a K)
noncomputable def fa9 : List AV → AV → AV → AV → AV → AV → AV → AV → AV → AV → (Fr → MV) → MV := List.rec (motive := fun _ => AV → AV → AV → AV → AV → AV → AV → AV → AV → (Fr → MV) → MV) (fun x0 x1 x2 x3 x4 x5 x6 x7 x8 K => K (.mk (.mk x0 x1 x2 x3 x4 x5 x6 x7 x8 .any .any .any .any .any .any .any) fr0 fr0 fr0 fr0 fr0 fr0 fr0 fr0 fr0 fr0 fr0 fr0 fr0 fr0 fr0)) (fun a l _ x0 x1 x2 x3 x4 x5 x6 x7 x8 K => fa10 l x0 x1 x2 x3 x4 x5 x6 x7 x8 a K)
noncomputable def fa8 : List AV → AV → AV → AV → AV → AV → AV → AV → AV → (Fr → MV) → MV := List.rec (motive := fun _ => AV → AV → AV → AV → AV → AV → AV → AV → (Fr → MV) → MV) (fun x0 x1 x2 x3 x4 x5 x6 x7 K => K (.mk (.mk x0 x1 x2 x3 x4 x5 x6 x7 .any .any .any .any .any .any .any .any) fr0 fr0 fr0 fr0 fr0 fr0 fr0 fr0 fr0 fr0 fr0 fr0 fr0 fr0 fr0)) (fun a l _ x0 x1 x2 x3 x4 x5 x6 x7 K => fa9 l x0 x1 x2 x3 x4 x5 x6 x7 a K)
noncomputable def fa7 : List AV → AV → AV → AV → AV → AV → AV → AV → (Fr → MV) → MV := List.rec (motive := fun _ => AV → AV → AV → AV → AV → AV → AV → (Fr → MV) → MV) (fun x0 x1 x2 x3 x4 x5 x6 K => K (.mk (.mk x0 x1 x2 x3 x4 x5 x6 .any .any .any .any .any .any .any .any .any) fr0 fr0 fr0 fr0 fr0 fr0 fr0 fr0 fr0 fr0 fr0 fr0 fr0 fr0 fr0)) (fun a l _ x0 x1 x2 x3 x4 x5 x6 K => fa8 l x0 x1 x2 x3 x4 x5 x6 a K)
noncomputable def fa6 : List AV → AV → AV → AV → AV → AV → AV → (Fr → MV) → MV := List.rec (motive := fun _ => AV → AV → AV → AV → AV → AV → (Fr → MV) → MV) (fun x0 x1 x2 x3 x4 x5 K => K (.mk (.mk x0 x1 x2 x3 x4 x5 .any .any .any .any .any .any .any .any .any .any) fr0 fr0 fr0 fr0 fr0 fr0 fr0 fr0 fr0 fr0 fr0 fr0 fr0 fr0 fr0)) (fun a l _ x0 x1 x2 x3 x4 x5 K => fa7 l x0 x1 x2 x3 x4 x5 a K)
noncomputable def fa5 : List AV → AV → AV → AV → AV → AV → (Fr → MV) → MV := List.rec (motive := fun _ => AV → AV → AV → AV → AV → (Fr → MV) → MV) (fun x0 x1 x2 x3 x4 K => K (.mk (.mk x0 x1 x2 x3 x4 .any .any .any .any .any .any .any .any .any .any .any) fr0 fr0 fr0 fr0 fr0 fr0 fr0 fr0 fr0 fr0 fr0 fr0 fr0 fr0 fr0)) (fun a l _ x0 x1 x2 x3 x4 K => fa6 l x0 x1 x2 x3 x4 a K)
noncomputable def fa4 : List AV → AV → AV → AV → AV → (Fr → MV) → MV := List.rec (motive := fun _ => AV → AV → AV → AV → (Fr → MV) → MV) (fun x0 x1 x2 x3 K => K (.mk (.mk x0 x1 x2 x3 .any .any .any .any .any .any .any .any .any .any .any .any) fr0 fr0 fr0 fr0 fr0 fr0 fr0 fr0 fr0 fr0 fr0 fr0 fr0 fr0 fr0)) (fun a l _ x0 x1 x2 x3 K => fa5 l x0 x1 x2 x3 a K)
noncomputable def fa3 : List AV → AV → AV → AV → (Fr → MV) → MV := List.rec (motive := fun _ => AV → AV → AV → (Fr → MV) → MV) (fun x0 x1 x2 K => K (.mk (.mk x0 x1 x2 .any .any .any .any .any .any .any .any .any .any .any .any .any) fr0 fr0 fr0 fr0 fr0 fr0 fr0 fr0 fr0 fr0 fr0 fr0 fr0 fr0 fr0)) (fun a l _ x0 x1 x2 K => fa4 l x0 x1 x2 a K)
noncomputable def fa2 : List AV → AV → AV → (Fr → MV) → MV := List.rec (motive := fun _ => AV → AV → (Fr → MV) → MV) (fun x0 x1 K => K (.mk (.mk x0 x1 .any .any .any .any .any .any .any .any .any .any .any .any .any .any) fr0 fr0 fr0 fr0 fr0 fr0 fr0 fr0 fr0 fr0 fr0 fr0 fr0 fr0 fr0)) (fun a l _ x0 x1 K => fa3 l x0 x1 a K)
noncomputable def fa1 : List AV → AV → (Fr → MV) → MV := List.rec (motive := fun _ => AV → (Fr → MV) → MV) (fun x0 K => K (.mk (.mk x0 .any .any .any .any .any .any .any .any .any .any .any .any .any .any .any) fr0 fr0 fr0 fr0 fr0 fr0 fr0 fr0 fr0 fr0 fr0 fr0 fr0 fr0 fr0)) (fun a l _ x0 K => fa2 l x0 a K)
noncomputable def fa0 : List AV → (Fr → MV) → MV := List.rec (motive := fun _ => (Fr → MV) → MV) (fun  K => K (.mk (.mk .any .any .any .any .any .any .any .any .any .any .any .any .any .any .any .any) fr0 fr0 fr0 fr0 fr0 fr0 fr0 fr0 fr0 fr0 fr0 fr0 fr0 fr0 fr0)) (fun a l _  K => fa1 l  a K)
noncomputable def avBoolM : AV → (Bool → MV) → MV → MV := AV.rec (motive_1 := fun _ => (Bool → MV) → MV → MV) (motive_2 := fun _ => Unit) (fun y0 K _ => K y0) (fun _ _ e => e) (fun _ _ _ e => e) (fun _ _ _ e => e) (fun _ _ _ e => e) (fun  _ e => e) (fun _ _ _ e => e) (fun  _ e => e) (fun _ _ _ _ _ _ _ e => e) (fun  _ e => e) (fun _ _ e => e) (fun _ _ _ _ _ _ e => e) (fun  _ e => e) (fun _ _ _ _ e => e) (fun  _ e => e) (fun _ _ _ e => e) (fun _ _ _ e => e) (fun  _ e => e) () (fun _ _ _ _ => ())
noncomputable def avIntM : AV → (IntKind → Int → MV) → MV → MV := AV.rec (motive_1 := fun _ => (IntKind → Int → MV) → MV → MV) (motive_2 := fun _ => Unit) (fun _ _ e => e) (fun _ _ e => e) (fun y0 y1 K _ => K y0 y1) (fun _ _ _ e => e) (fun _ _ _ e => e) (fun  _ e => e) (fun _ _ _ e => e) (fun  _ e => e) (fun _ _ _ _ _ _ _ e => e) (fun  _ e => e) (fun _ _ e => e) (fun _ _ _ _ _ _ e => e) (fun  _ e => e) (fun _ _ _ _ e => e) (fun  _ e => e) (fun _ _ _ e => e) (fun _ _ _ e => e) (fun  _ e => e) () (fun _ _ _ _ => ())
noncomputable def avStrM : AV → (Nat → Nat → MV) → MV → MV := AV.rec (motive_1 := fun _ => (Nat → Nat → MV) → MV → MV) (motive_2 := fun _ => Unit) (fun _ _ e => e) (fun _ _ e => e) (fun _ _ _ e => e) (fun _ _ _ e => e) (fun y0 y1 K _ => K y0 y1) (fun  _ e => e) (fun _ _ _ e => e) (fun  _ e => e) (fun _ _ _ _ _ _ _ e => e) (fun  _ e => e) (fun _ _ e => e) (fun _ _ _ _ _ _ e => e) (fun  _ e => e) (fun _ _ _ _ e => e) (fun  _ e => e) (fun _ _ _ e => e) (fun _ _ _ e => e) (fun  _ e => e) () (fun _ _ _ _ => ())
noncomputable def avPtrM : AV → (Nat → Nat → MV) → MV → MV := AV.rec (motive_1 := fun _ => (Nat → Nat → MV) → MV → MV) (motive_2 := fun _ => Unit) (fun _ _ e => e) (fun _ _ e => e) (fun _ _ _ e => e) (fun _ _ _ e => e) (fun _ _ _ e => e) (fun  _ e => e) (fun y0 y1 K _ => K y0 y1) (fun  _ e => e) (fun _ _ _ _ _ _ _ e => e) (fun  _ e => e) (fun _ _ e => e) (fun _ _ _ _ _ _ e => e) (fun  _ e => e) (fun _ _ _ _ e => e) (fun  _ e => e) (fun _ _ _ e => e) (fun _ _ _ e => e) (fun  _ e => e) () (fun _ _ _ _ => ())
noncomputable def avSliceM : AV → (Nat → Nat → Nat → Nat → Bool → Nat → MV) → MV → MV := AV.rec (motive_1 := fun _ => (Nat → Nat → Nat → Nat → Bool → Nat → MV) → MV → MV) (motive_2 := fun _ => Unit) (fun _ _ e => e) (fun _ _ e => e) (fun _ _ _ e => e) (fun _ _ _ e => e) (fun _ _ _ e => e) (fun  _ e => e) (fun _ _ _ e => e) (fun  _ e => e) (fun y0 y1 y2 y3 y4 y5 K _ => K y0 y1 y2 y3 y4 y5) (fun  _ e => e) (fun _ _ e => e) (fun _ _ _ _ _ _ e => e) (fun  _ e => e) (fun _ _ _ _ e => e) (fun  _ e => e) (fun _ _ _ e => e) (fun _ _ _ e => e) (fun  _ e => e) () (fun _ _ _ _ => ())
noncomputable def avMapM : AV → (Nat → MV) → MV → MV := AV.rec (motive_1 := fun _ => (Nat → MV) → MV → MV) (motive_2 := fun _ => Unit) (fun _ _ e => e) (fun _ _ e => e) (fun _ _ _ e => e) (fun _ _ _ e => e) (fun _ _ _ e => e) (fun  _ e => e) (fun _ _ _ e => e) (fun  _ e => e) (fun _ _ _ _ _ _ _ e => e) (fun  _ e => e) (fun y0 K _ => K y0) (fun _ _ _ _ _ _ e => e) (fun  _ e => e) (fun _ _ _ _ e => e) (fun  _ e => e) (fun _ _ _ e => e) (fun _ _ _ e => e) (fun  _ e => e) () (fun _ _ _ _ => ())
noncomputable def avAggM : AV → (List AV → MV) → MV → MV := AV.rec (motive_1 := fun _ => (List AV → MV) → MV → MV) (motive_2 := fun _ => Unit) (fun _ _ e => e) (fun _ _ e => e) (fun _ _ _ e => e) (fun _ _ _ e => e) (fun _ _ _ e => e) (fun  _ e => e) (fun _ _ _ e => e) (fun  _ e => e) (fun _ _ _ _ _ _ _ e => e) (fun  _ e => e) (fun _ _ e => e) (fun _ _ _ _ _ _ e => e) (fun  _ e => e) (fun _ _ _ _ e => e) (fun  _ e => e) (fun y0 _ K _ => K y0) (fun _ _ _ e => e) (fun  _ e => e) () (fun _ _ _ _ => ())
noncomputable def avTupleM : AV → (List AV → MV) → MV → MV := AV.rec (motive_1 := fun _ => (List AV → MV) → MV → MV) (motive_2 := fun _ => Unit) (fun _ _ e => e) (fun _ _ e => e) (fun _ _ _ e => e) (fun _ _ _ e => e) (fun _ _ _ e => e) (fun  _ e => e) (fun _ _ _ e => e) (fun  _ e => e) (fun _ _ _ _ _ _ _ e => e) (fun  _ e => e) (fun _ _ e => e) (fun _ _ _ _ _ _ e => e) (fun  _ e => e) (fun _ _ _ _ e => e) (fun  _ e => e) (fun _ _ _ e => e) (fun y0 _ K _ => K y0) (fun  _ e => e) () (fun _ _ _ _ => ())
noncomputable def avFuncM : AV → (AFn → List AV → List AV → MV) → MV → MV := AV.rec (motive_1 := fun _ => (AFn → List AV → List AV → MV) → MV → MV) (motive_2 := fun _ => Unit) (fun _ _ e => e) (fun _ _ e => e) (fun _ _ _ e => e) (fun _ _ _ e => e) (fun _ _ _ e => e) (fun  _ e => e) (fun _ _ _ e => e) (fun  _ e => e) (fun _ _ _ _ _ _ _ e => e) (fun  _ e => e) (fun _ _ e => e) (fun y0 y1 y2 _ _ K _ => K y0 y1 y2) (fun  _ e => e) (fun _ _ _ _ e => e) (fun  _ e => e) (fun _ _ _ e => e) (fun _ _ _ e => e) (fun  _ e => e) () (fun _ _ _ _ => ())
noncomputable def avBoolR : AV → (Bool → KRes) → KRes → KRes := AV.rec (motive_1 := fun _ => (Bool → KRes) → KRes → KRes) (motive_2 := fun _ => Unit) (fun y0 K _ => K y0) (fun _ _ e => e) (fun _ _ _ e => e) (fun _ _ _ e => e) (fun _ _ _ e => e) (fun  _ e => e) (fun _ _ _ e => e) (fun  _ e => e) (fun _ _ _ _ _ _ _ e => e) (fun  _ e => e) (fun _ _ e => e) (fun _ _ _ _ _ _ e => e) (fun  _ e => e) (fun _ _ _ _ e => e) (fun  _ e => e) (fun _ _ _ e => e) (fun _ _ _ e => e) (fun  _ e => e) () (fun _ _ _ _ => ())
noncomputable def pj0 {α : Type} (x : N8 α) : α := N8.rec (fun a _ _ _ _ _ _ _ => a) x
noncomputable def pj1 {α : Type} (x : N8 α) : α := N8.rec (fun _ b _ _ _ _ _ _ => b) x
noncomputable def pj2 {α : Type} (x : N8 α) : α := N8.rec (fun _ _ c _ _ _ _ _ => c) x
noncomputable def pj3 {α : Type} (x : N8 α) : α := N8.rec (fun _ _ _ d _ _ _ _ => d) x
noncomputable def pj4 {α : Type} (x : N8 α) : α := N8.rec (fun _ _ _ _ e _ _ _ => e) x
noncomputable def pj5 {α : Type} (x : N8 α) : α := N8.rec (fun _ _ _ _ _ f _ _ => f) x
noncomputable def pj6 {α : Type} (x : N8 α) : α := N8.rec (fun _ _ _ _ _ _ g _ => g) x
noncomputable def pj7 {α : Type} (x : N8 α) : α := N8.rec (fun _ _ _ _ _ _ _ h => h) x
noncomputable def prj {α : Type} : Nat → N8 α → α
  | 0 => pj0
  | 1 => pj1
  | 2 => pj2
  | 3 => pj3
  | 4 => pj4
  | 5 => pj5
  | 6 => pj6
  | _ => pj7
end Go.Ab
