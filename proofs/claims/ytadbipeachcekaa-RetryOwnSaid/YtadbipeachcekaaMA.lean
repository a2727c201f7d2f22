/- The abstract machine: values, memory, operations; each operation is the model's. -/
import GoSem.Core.View
import GoSem.Core.Ast
import Derived.WalkKit
import Derived.Laws.IdiomCopy
import Derived.WalkLawsBesides
import Derived.Laws.StructEq
import Derived.Laws.Concat
import Derived.ChangeKeysEq
import Derived.Laws.BytesArg
import Derived.Laws.Tables
import Derived.Laws.MakeOwn
import Derived.MapKept
import Derived.Lib.ConvBytes
import Derived.WideKeyRuns
/- The abstract machine: values with block numbers, blocks of cells, code that is run by fuel. It knows no capacities that a draw decides, no tape and no order that is open. -/
namespace Go.Proofs.Ytadbipeachcekaa.Ab
open Go

/-- values: a bool, an integer, a text, pointers, slices (block, offset, length, capacity that is known to be there; 0: that is all, else: there may be more, in elements of so many cells), maps, functions, structs and arrays by value, several results; 'un': nothing is known; 'es': a slice of nothing that isn't nil, wherever it points -/
inductive AV where
  | b (x : Bool)
  | i (k : IntKind) (n : Int)
  | s (x : List UInt8)
  | nilp
  | ptr (id off : Nat)
  | nils
  | es
  | sl (id off len cap lo : Nat)
  | nilm
  | mp (id : Nat)
  | nilf
  | fn (f : Nat) (first cap : List (Nat × Nat))
  | agg (cs : List AV)
  | tup (vs : List AV)
  | un
  deriving Inhabited, Repr

/-- the cells of what can be stored -/
def AV.cl : AV → Option (List AV)
  | .agg cs => some cs
  | .tup _ => none
  | .un => none
  | v => some [v]

inductive Blk where
  | row (cs : List AV) (ro : Bool)
  | map (es : List (AV × AV × Nat)) (clock : Nat)
  deriving Inhabited

structure AH where
  next : Nat
  blk : Nat → Option Blk

def AH.alloc (h : AH) (x : Blk) : AH := ⟨h.next + 1, fun j => if j = h.next then some x else h.blk j⟩
def AH.set (h : AH) (id : Nat) (x : Option Blk) : AH := ⟨h.next, fun j => if j = id then x else h.blk j⟩
def setl : List AV → Nat → List AV → List AV
  | cs, _, [] => cs
  | cs, o, v :: r => setl (cs.set o v) (o + 1) r
/-- cells that are known -/
def AV.isUn : AV → Bool
  | .un => true
  | _ => false
def AH.rd (h : AH) (id off : Nat) : Option AV :=
  match h.blk id with
  | some (.row cs _) => (match cs[off]? with | some v => if v.isUn then none else some v | none => none)
  | _ => none
def AH.rdn (h : AH) (id off n : Nat) : Option (List AV) :=
  match h.blk id with
  | some (.row cs _) => if off + n ≤ cs.length ∧ ((cs.drop off).take n).any AV.isUn = false then some ((cs.drop off).take n) else none
  | _ => none
def AH.wr (h : AH) (id off : Nat) (vs : List AV) : Option AH :=
  match h.blk id with
  | some (.row cs false) => if off + vs.length ≤ cs.length then some (h.set id (some (.row (setl cs off vs) false))) else none
  | _ => none

inductive AX where
  | t (n : Nat)
  | c (v : AV)
  deriving Inhabited, Repr

abbrev Env := List (Nat × AV)
def eget : Env → Nat → AV
  | [], _ => .un
  | (m, v) :: r, n => if m = n then v else eget r n
def eput (e : Env) : Option Nat → AV → Env
  | none, _ => e
  | some d, v => (d, v) :: e
def ev (e : Env) : AX → AV
  | .t n => eget e n
  | .c v => v

/-- what is compared, beside numbers and texts; a struct's and an array's cells, kind by kind -/
inductive SK where
  | bo | it | st
  deriving Inhabited, Repr, DecidableEq
inductive EK where
  | bo | pt | sl | mp | fn | ag (ks : List SK)
  deriving Inhabited, Repr, DecidableEq

/-- kinds of keys -/
inductive KK where
  | sc (k : SK) | ar (ks : List SK)
  deriving Inhabited, Repr, DecidableEq
inductive LK where
  | st | sl | mp
  deriving Inhabited, Repr, DecidableEq

inductive AO where
  | mv (x : AX)
  | pick (c a b : AX)
  | bin (op : BinOp) (x y : AX)
  | eq (kd : EK) (neg : Bool) (x y : AX)
  | not (x : AX)
  | neg (x : AX)
  | xor (x : AX)
  | toInt (k : IntKind) (x : AX)
  | same (x : AX)
  | toStr (x : AX)
  | toBytes (x : AX)
  | mark (x : AX)
  | runeStr (x : AX)
  | alloc (z : List AV)
  | box (sz : Nat) (x : AX)
  | build (z : List AV) (ps : List (Nat × Nat × AX))
  | bsl (esz len : Nat) (z : List AV) (ps : List (Nat × Nat × AX))
  | ld (sz : Option Nat) (a : AX)
  | st (sz : Nat) (a v : AX)
  | chk (x : AX)
  | fa (off : Nat) (a : AX)
  | ia (esz : Nat) (x ix : AX)
  | iaa (n esz : Nat) (x ix : AX)
  | ix (n esz : Nat) (ag : Bool) (x ix : AX)
  | ixs (x ix : AX)
  | fld (off : Nat) (sz : Option Nat) (x : AX)
  | ext (ix : Nat) (x : AX)
  | slc (esz : Nat) (x : AX) (lo hi mx : Option AX)
  | sls (x : AX) (lo hi : Option AX)
  | sla (n esz : Nat) (x : AX) (lo hi : Option AX)
  | mks (esz bytes : Nat) (z : List AV) (l c : AX)
  | mkm
  | lkp (kk : KK) (z : AV) (ok : Bool) (m k : AX)
  | mup (kk : KK) (m k v : AX)
  | ment (kk : KK) (z : AV) (m k : AX)
  | mst (m s v : AX)
  | mkf (f : Nat) (first cap : List AX)
  | call (f : Nat) (args : List AX)
  | callv (f : AX) (args : List AX)
  | len (k : LK) (x : AX)
  | app (esz bytes : Nat) (s x : AX)
  | cpy (esz : Nat) (d s : AX)
  | mn (l : List AX)
  | mx (l : List AX)
  | del (kk : KK) (m k : AX)
  | clr (esz : Nat) (z : List AV) (x : AX)
  deriving Inhabited, Repr

/-- integers, texts -/
def bytesLess : List UInt8 → List UInt8 → Bool
  | _, [] => false
  | [], _ :: _ => true
  | a :: x, b :: y => a < b || (a == b && bytesLess x y)
def room : Nat := 140737488355328

def bitw (k : IntKind) (f : BitVec k.bits → BitVec k.bits → BitVec k.bits) (x y : Int) : AV := .i k (k.wrap ((f (BitVec.ofInt k.bits x) (BitVec.ofInt k.bits y)).toNat))
def ibin (op : BinOp) (k : IntKind) (x y : Int) : Option AV :=
  match op with
  | .add => some (.i k (k.wrap (x + y)))
  | .sub => some (.i k (k.wrap (x - y)))
  | .mul => some (.i k (k.wrap (x * y)))
  | .quo => if y = 0 then none else some (.i k (k.wrap (x.tdiv y)))
  | .rem => if y = 0 then none else some (.i k (x.tmod y))
  | .and => some (bitw k (· &&& ·) x y)
  | .or => some (bitw k (· ||| ·) x y)
  | .xor => some (bitw k (· ^^^ ·) x y)
  | .andNot => some (bitw k (fun a b => a &&& ~~~b) x y)
  | .eql => some (.b (decide (x = y)))
  | .neq => some (.b (!decide (x = y)))
  | .lss => some (.b (decide (x < y)))
  | .leq => some (.b (decide (x ≤ y)))
  | .gtr => some (.b (decide (x > y)))
  | .geq => some (.b (decide (x ≥ y)))
  | _ => none
def ishift (op : BinOp) (k : IntKind) (x y : Int) : Option AV :=
  if y < 0 then none else
  match op with
  | .shl => some (.i k (k.wrap (x * 2 ^ (min y.toNat k.bits))))
  | .shr => some (.i k (x.fdiv (2 ^ (min y.toNat k.bits))))
  | _ => none
def sbin (op : BinOp) (x y : List UInt8) : Option AV :=
  match op with
  | .add => if x.length + y.length ≤ room then some (.s (x ++ y)) else none
  | .eql => some (.b (decide (x = y)))
  | .neq => some (.b (!decide (x = y)))
  | .lss => some (.b (bytesLess x y))
  | .leq => some (.b (bytesLess x y || decide (x = y)))
  | .gtr => some (.b (!(bytesLess x y || decide (x = y))))
  | .geq => some (.b (!bytesLess x y))
  | _ => none
def sceq : SK → AV → AV → Option Bool
  | .bo, .b x, .b y => some (x == y)
  | .it, .i k x, .i k' y => if k = k' then some (decide (x = y)) else none
  | .st, .s x, .s y => some (decide (x = y))
  | _, _, _ => none
def aeqs : List SK → List AV → List AV → Option Bool
  | [], [], [] => some true
  | k :: ks, x :: xs, y :: ys =>
    match sceq k x y with
    | some true => aeqs ks xs ys
    | some false => some false
    | none => none
  | _, _, _ => none
def aeq : EK → AV → AV → Option Bool
  | .bo, .b x, .b y => some (x == y)
  | .pt, .nilp, .nilp => some true
  | .pt, .nilp, .ptr _ _ => some false
  | .pt, .ptr _ _, .nilp => some false
  | .sl, .nils, .nils => some true
  | .sl, .nils, .sl _ _ _ _ _ => some false
  | .sl, .sl _ _ _ _ _, .nils => some false
  | .sl, .nils, .es => some false
  | .sl, .es, .nils => some false
  | .mp, .nilm, .nilm => some true
  | .mp, .nilm, .mp _ => some false
  | .mp, .mp _, .nilm => some false
  | .fn, .nilf, .nilf => some true
  | .fn, .nilf, .fn _ _ _ => some false
  | .fn, .fn _ _ _, .nilf => some false
  | .ag ks, .agg xs, .agg ys => aeqs ks xs ys
  | _, _, _ => none
def abin (op : BinOp) (x y : AV) : Option AV :=
  match op, x, y with
  | .shl, .i k a, .i _ b => ishift .shl k a b
  | .shr, .i k a, .i _ b => ishift .shr k a b
  | op, .i k a, .i k' b => if k = k' then ibin op k a b else none
  | op, .s a, .s b => sbin op a b
  | _, _, _ => none

/-- parts laid into cells -/
def fills (e : Env) : List AV → List (Nat × Nat × AX) → Option (List AV)
  | z, [] => some z
  | z, (o, n, x) :: r =>
    match (ev e x).cl with
    | some cs => if cs.length = n ∧ o + n ≤ z.length then fills e (setl z o cs) r else none
    | none => none

def aload (sz : Option Nat) (a : AV) (h : AH) : Option (AV × AH) :=
  match a, sz with
  | .ptr id off, none => (h.rd id off).map fun v => (v, h)
  | .ptr id off, some n => (h.rdn id off n).map fun cs => (.agg cs, h)
  | _, _ => none
def astore (sz : Nat) (a v : AV) (h : AH) : Option (AV × AH) :=
  match a, v.cl with
  | .ptr id off, some cs => if cs.length = sz then (h.wr id off cs).map fun h' => (.tup [], h') else none
  | _, _ => none
def achk : AV → Option AV
  | .nilp => none
  | .nilf => none
  | .ptr a b => some (.ptr a b)
  | .fn f a c => some (.fn f a c)
  | _ => none
/-- a bound of a slice: lo ≤ hi ≤ mx, all of them numbers -/
def bnd (v : Option AV) (d m : Nat) : Option Nat :=
  match v with
  | none => some d
  | some (.i _ n) => if 0 ≤ n ∧ n ≤ m then some n.toNat else none
  | _ => none
def aslice (esz : Nat) (x : AV) (lo hi mx : Option AV) : Option AV :=
  match x with
  | .nils =>
    match bnd mx 0 0, bnd hi 0 0, bnd lo 0 0 with
    | some _, some _, some _ => some .nils
    | _, _, _ => none
  | .es =>
    match bnd mx 0 0, bnd hi 0 0, bnd lo 0 0 with
    | some _, some _, some _ => some .es
    | _, _, _ => none
  | .sl id off len cap lo' =>
    if lo' = 0 ∨ lo' = esz then
    match bnd mx cap cap with
    | none => none
    | some m =>
      match bnd hi len m with
      | none => none
      | some h =>
        match bnd lo 0 h with
        | none => none
        | some l => some (.sl id (off + l * esz) (h - l) (m - l) (if mx.isSome then 0 else lo'))
    else none
  | _ => none
def astrcut (x : AV) (lo hi : Option AV) : Option AV :=
  match x with
  | .s l =>
    match bnd hi l.length l.length with
    | none => none
    | some h =>
      match bnd lo 0 h with
      | none => none
      | some o => some (.s ((l.take h).drop o))
  | _ => none
def aarrcut (n esz : Nat) (x : AV) (lo hi : Option AV) : Option AV :=
  match x with
  | .ptr id off =>
    match bnd hi n n with
    | none => none
    | some h =>
      match bnd lo 0 h with
      | none => none
      | some l => some (.sl id (off + l * esz) (h - l) (n - l) 0)
  | _ => none
def aidx (esz : Nat) (x ix : AV) : Option AV :=
  match x, ix with
  | .sl id off len _ _, .i _ n => if 0 ≤ n ∧ n < (len : Int) then some (.ptr id (off + n.toNat * esz)) else none
  | _, _ => none
def aidxa (n esz : Nat) (x ix : AV) : Option AV :=
  match x, ix with
  | .ptr id off, .i _ j => if 0 ≤ j ∧ j < (n : Int) then some (.ptr id (off + j.toNat * esz)) else none
  | _, _ => none
def aidxv (n esz : Nat) (ag : Bool) (x ix : AV) : Option AV :=
  match x, ix with
  | .agg cs, .i _ j =>
    if 0 ≤ j ∧ j < (n : Int) then
      if ag then (if j.toNat * esz + esz ≤ cs.length then some (.agg ((cs.drop (j.toNat * esz)).take esz)) else none) else cs[j.toNat * esz]?
    else none
  | _, _ => none
def aidxs (x ix : AV) : Option AV :=
  match x, ix with
  | .s l, .i _ j => if 0 ≤ j then (l[j.toNat]?).map fun c => .i .u8 c.toNat else none
  | _, _ => none
def afield (off : Nat) (sz : Option Nat) (x : AV) : Option AV :=
  match x, sz with
  | .agg cs, none => cs[off]?
  | .agg cs, some n => if off + n ≤ cs.length then some (.agg ((cs.drop off).take n)) else none
  | _, _ => none
def aext (ix : Nat) (x : AV) : Option AV :=
  match x with
  | .tup vs => vs[ix]?
  | _ => none
def alen (k : LK) (x : AV) (h : AH) : Option AV :=
  match k, x with
  | .st, .s l => some (.i .i64 l.length)
  | .sl, .nils => some (.i .i64 0)
  | .sl, .es => some (.i .i64 0)
  | .sl, .sl _ _ n _ _ => some (.i .i64 n)
  | .mp, .nilm => some (.i .i64 0)
  | .mp, .mp id =>
    match h.blk id with
    | some (.map es _) => some (.i .i64 es.length)
    | _ => none
  | _, _ => none
/-- the cells that a slice, or a text, shows -/
def ashow (esz : Nat) (x : AV) (h : AH) : Option (Nat × List AV) :=
  match x with
  | .nils => some (0, [])
  | .es => some (0, [])
  | .sl id off n _ _ => (h.rdn id off (n * esz)).map fun cs => (n, cs)
  | .s l => if esz = 1 then some (l.length, l.map fun c => .i .u8 c.toNat) else none
  | _ => none
def aapp (esz bytes : Nat) (s x : AV) (h : AH) : Option (AV × AH) :=
  match ashow esz x h with
  | none => none
  | some (n, new) =>
    if 0 < esz ∧ 0 < bytes then
      match s with
      | .nils => if n = 0 then some (.nils, h) else if n * bytes ≤ room then some (.sl h.next 0 n n esz, h.alloc (.row new false)) else none
      | .es => if n = 0 then some (.es, h) else if n * bytes ≤ room then some (.sl h.next 0 n n esz, h.alloc (.row new false)) else none
      | .sl id off len cap lo =>
        if len + n ≤ cap then
          if n = 0 then some (.sl id off len cap lo, h) else (h.wr id (off + len * esz) new).map fun h' => (.sl id off (len + n) cap lo, h')
        else if (len + n) * bytes ≤ room then
          match h.rdn id off (len * esz) with
          | none => none
          | some old =>
            if lo = 0 then some (.sl h.next 0 (len + n) (len + n) esz, h.alloc (.row (old ++ new) false))
            else
              match h.blk id with
              | some (.row _ false) =>
                if off = 0 ∧ lo = esz then some (.sl h.next 0 (len + n) (len + n) esz, (h.set id none).alloc (.row (old ++ new) false)) else none
              | _ => none
        else none
      | _ => none
    else none
def acopy (esz : Nat) (d s : AV) (h : AH) : Option (AV × AH) :=
  match ashow esz s h with
  | none => none
  | some (n, new) =>
    match d with
    | .nils => some (.i .i64 0, h)
    | .sl id off len _ _ => if min n len = 0 then some (.i .i64 0, h) else (h.wr id off (new.take (min n len * esz))).map fun h' => (.i .i64 (min n len : Nat), h')
    | _ => none
def zeros (z : List AV) : Nat → List AV
  | 0 => []
  | n + 1 => z ++ zeros z n
def aclear (esz : Nat) (z : List AV) (x : AV) (h : AH) : Option (AV × AH) :=
  match x with
  | .nils => some (.tup [], h)
  | .sl id off n _ _ => if n = 0 then some (.tup [], h) else if z.length = esz then (h.wr id off (zeros z n)).map fun h' => (.tup [], h') else none
  | _ => none
def amake (esz bytes : Nat) (z : List AV) (l c : AV) (h : AH) : Option (AV × AH) :=
  match l, c with
  | .i .i64 l, .i .i64 c =>
    if 0 ≤ l ∧ l ≤ c ∧ c * bytes ≤ room ∧ 0 < bytes ∧ z.length = esz then some (.sl h.next 0 l.toNat c.toNat 0, h.alloc (.row (zeros z c.toNat) false)) else none
  | _, _ => none
/-- keys: numbers, texts, and lists -/
def keyq : KK → AV → AV → Option Bool
  | .sc k, a, b => sceq k a b
  | .ar ks, .agg a, .agg b => aeqs ks a b
  | _, _, _ => none
def conf1 : SK → AV → Bool
  | .bo, .b _ | .it, .i _ _ | .st, .s _ => true
  | _, _ => false
def confs : List SK → List AV → Bool
  | [], [] => true
  | k :: ks, x :: xs => conf1 k x && confs ks xs
  | _, _ => false
def kok : KK → AV → Bool
  | .sc k, a => conf1 k a
  | .ar ks, .agg a => confs ks a
  | _, _ => false
def kfind (kk : KK) (k : AV) : List (AV × AV × Nat) → Nat → Option (Option (Nat × AV × Nat))
  | [], _ => some none
  | (x, v, n) :: r, j =>
    match keyq kk k x with
    | some true => some (some (j, v, n))
    | some false => kfind kk k r (j + 1)
    | none => none
def amapof (m : AV) (h : AH) : Option (Nat × List (AV × AV × Nat) × Nat) :=
  match m with
  | .mp id =>
    match h.blk id with
    | some (.map es cl) => some (id, es, cl)
    | _ => none
  | _ => none
def alookup (kk : KK) (z : AV) (ok : Bool) (m k : AV) (h : AH) : Option (AV × AH) :=
  match m with
  | .nilm => if kok kk k then some (if ok then .tup [z, .b false] else z, h) else none
  | m =>
    match amapof m h with
    | none => none
    | some (_, es, _) =>
      match (if kok kk k then kfind kk k es 0 else none) with
      | none => none
      | some none => some (if ok then .tup [z, .b false] else z, h)
      | some (some (_, v, _)) => some (if ok then .tup [v, .b true] else v, h)
def amapput (kk : KK) (m k v : AV) (h : AH) : Option (AV × AH) :=
  match amapof m h with
  | none => none
  | some (id, es, cl) =>
    match (if kok kk k then kfind kk k es 0 else none) with
    | none => none
    | some none => some (.tup [], h.set id (some (.map (es ++ [(k, v, cl)]) (cl + 1))))
    | some (some (j, _, n)) => some (.tup [], h.set id (some (.map (es.set j (k, v, n)) cl)))
def amapent (kk : KK) (z m k : AV) (h : AH) : Option (AV × AH) :=
  match amapof m h with
  | none => none
  | some (id, es, cl) =>
    match (if kok kk k then kfind kk k es 0 else none) with
    | none => none
    | some none => some (.tup [z, .i .i64 cl], h.set id (some (.map (es ++ [(k, z, cl)]) (cl + 1))))
    | some (some (j, v, n)) => some (.tup [v, .i .i64 n], h.set id (some (.map (es.set j (k, v, n)) cl)))
def bfind (born : Int) : List (AV × AV × Nat) → Nat → Option (Nat × AV × Nat)
  | [], _ => none
  | (k, _, n) :: r, j => if (n : Int) = born then some (j, k, n) else bfind born r (j + 1)
def amapst (m s v : AV) (h : AH) : Option (AV × AH) :=
  match amapof m h, s with
  | some (id, es, cl), .i _ born =>
    match bfind born es 0 with
    | none => none
    | some (j, k, n) => some (.tup [], h.set id (some (.map (es.set j (k, v, n)) cl)))
  | _, _ => none
def adel (kk : KK) (m k : AV) (h : AH) : Option (AV × AH) :=
  match m with
  | .nilm => if kok kk k then some (.tup [], h) else none
  | m =>
    match amapof m h with
    | none => none
    | some (id, es, cl) =>
      match (if kok kk k then kfind kk k es 0 else none) with
      | none => none
      | some none => some (.tup [], h)
      | some (some (j, _, _)) => some (.tup [], h.set id (some (.map (es.eraseIdx j) cl)))
def ptrs : List AV → Option (List (Nat × Nat))
  | [] => some []
  | .ptr a o :: r => (ptrs r).map ((a, o) :: ·)
  | _ => none
def bytesOf : List AV → Option (List UInt8)
  | [] => some []
  | .i .u8 n :: r => (bytesOf r).map (UInt8.ofNat n.toNat :: ·)
  | _ => none
def amins : AV → List AV → Option AV
  | x, [] => some x
  | .i k x, .i k' y :: r => if k = k' then amins (.i k (if y < x then y else x)) r else none
  | _, _ => none
def amaxs : AV → List AV → Option AV
  | x, [] => some x
  | .i k x, .i k' y :: r => if k = k' then amaxs (.i k (if y > x then y else x)) r else none
  | _, _ => none
def pureh (h : AH) (v : Option AV) : Option (AV × AH) := v.map fun x => (x, h)

/-- an operation that is no call -/
def aop (o : AO) (e : Env) (h : AH) : Option (AV × AH) :=
  match o with
  | .mv x => some (ev e x, h)
  | .pick c a b =>
    match ev e c with
    | .b true => some (ev e a, h)
    | .b false => some (ev e b, h)
    | _ => none
  | .bin op x y => pureh h (abin op (ev e x) (ev e y))
  | .eq kd neg x y => pureh h ((aeq kd (ev e x) (ev e y)).map fun r => .b (r != neg))
  | .not x => pureh h (match ev e x with | .b v => some (.b (!v)) | _ => none)
  | .neg x => pureh h (match ev e x with | .i k n => some (.i k (k.wrap (0 - n))) | _ => none)
  | .xor x => pureh h (match ev e x with | .i k n => some (bitw k (· ^^^ ·) (if k.signed then -1 else k.max) n) | _ => none)
  | .toInt k x => pureh h (match ev e x with | .i _ n => some (.i k (k.wrap n)) | _ => none)
  | .same x => pureh h (match ev e x with | .s l => some (.s l) | _ => none)
  | .toStr x =>
    match ashow 1 (ev e x) h with
    | some (_, cs) => pureh h ((bytesOf cs).map .s)
    | none => none
  | .toBytes x =>
    match ev e x with
    | .s l => if l.length ≤ 9223372036854775807 then some (.sl h.next 0 l.length l.length 1, h.alloc (.row (l.map fun c => .i .u8 c.toNat) false)) else none
    | _ => none
  | .mark x =>
    match ev e x with
    | .sl id off len cap lo =>
      match h.blk id with
      | some (.row _ false) => some (.sl id off len cap lo, h)
      | _ => none
    | _ => none
  | .runeStr x => pureh h (match ev e x with | .i _ n => if 0 ≤ n ∧ n < 128 then some (.s [UInt8.ofNat n.toNat]) else none | _ => none)
  | .alloc z => some (.ptr h.next 0, h.alloc (.row z false))
  | .box sz x =>
    match (ev e x).cl with
    | some cs => if cs.length = sz then some (.ptr h.next 0, h.alloc (.row cs false)) else none
    | none => none
  | .build z ps => pureh h ((fills e z ps).map .agg)
  | .bsl esz len z ps =>
    match fills e z ps with
    | some cs => if cs.length = len * esz then some (.sl h.next 0 len len 0, h.alloc (.row cs false)) else none
    | none => none
  | .ld sz a => aload sz (ev e a) h
  | .st sz a v => astore sz (ev e a) (ev e v) h
  | .chk x => pureh h (achk (ev e x))
  | .fa off a => pureh h (match ev e a with | .ptr id o => some (.ptr id (o + off)) | _ => none)
  | .ia esz x ix => pureh h (aidx esz (ev e x) (ev e ix))
  | .iaa n esz x ix => pureh h (aidxa n esz (ev e x) (ev e ix))
  | .ix n esz ag x ix => pureh h (aidxv n esz ag (ev e x) (ev e ix))
  | .ixs x ix => pureh h (aidxs (ev e x) (ev e ix))
  | .fld off sz x => pureh h (afield off sz (ev e x))
  | .ext ix x => pureh h (aext ix (ev e x))
  | .slc esz x lo hi mx => pureh h (aslice esz (ev e x) (lo.map (ev e)) (hi.map (ev e)) (mx.map (ev e)))
  | .sls x lo hi => pureh h (astrcut (ev e x) (lo.map (ev e)) (hi.map (ev e)))
  | .sla n esz x lo hi => pureh h (aarrcut n esz (ev e x) (lo.map (ev e)) (hi.map (ev e)))
  | .mks esz bytes z l c => amake esz bytes z (ev e l) (ev e c) h
  | .mkm => some (.mp h.next, h.alloc (.map [] 0))
  | .lkp kk z ok m k => alookup kk z ok (ev e m) (ev e k) h
  | .mup kk m k v => if (ev e k).cl.isSome ∧ (ev e v).cl.isSome then amapput kk (ev e m) (ev e k) (ev e v) h else none
  | .ment kk z m k => if (ev e k).cl.isSome then amapent kk z (ev e m) (ev e k) h else none
  | .mst m s v => if (ev e v).cl.isSome then amapst (ev e m) (ev e s) (ev e v) h else none
  | .mkf f first cap => pureh h (match ptrs (first.map (ev e)), ptrs (cap.map (ev e)) with | some a, some c => some (.fn f a c) | _, _ => none)
  | .call _ _ => none
  | .callv _ _ => none
  | .len k x => pureh h (alen k (ev e x) h)
  | .app esz bytes s x => aapp esz bytes (ev e s) (ev e x) h
  | .cpy esz d s => acopy esz (ev e d) (ev e s) h
  | .mn l => pureh h (match l.map (ev e) with | x :: r => amins x r | [] => none)
  | .mx l => pureh h (match l.map (ev e) with | x :: r => amaxs x r | [] => none)
  | .del kk m k => adel kk (ev e m) (ev e k) h
  | .clr esz z x => aclear esz z (ev e x) h

structure AOp where
  d : Option Nat
  g : Option (Nat × Bool)
  o : AO
  deriving Inhabited, Repr

abbrev CallF := Nat → List AV → AH → Option (AV × AH)
def exOp (C : CallF) (o : AO) (e : Env) (h : AH) : Option (AV × AH) :=
  match o with
  | .call f args => C f (args.map (ev e)) h
  | .callv f args =>
    match ev e f with
    | .fn g first cap => C g (first.map (fun p => .ptr p.1 p.2) ++ args.map (ev e) ++ cap.map (fun p => .ptr p.1 p.2)) h
    | _ => none
  | o => aop o e h
/-- is the operation wanted? -/
def guarded (e : Env) : Option (Nat × Bool) → Option Bool
  | none => some true
  | some (s, w) =>
    match eget e s with
    | .b x => some (x == w)
    | .tup [] => some false
    | _ => none
def stepOp (C : CallF) (o : AOp) (e : Env) (h : AH) : Option (AV × AH) :=
  match guarded e o.g with
  | some true => exOp C o.o e h
  | some false => some (.tup [], h)
  | none => none
def exOps (C : CallF) : List AOp → Env → AH → Option (Env × AH)
  | [], e, h => some (e, h)
  | o :: r, e, h =>
    match stepOp C o e h with
    | some (v, h') => exOps C r (eput e o.d v) h'
    | none => none

/-- operations that turn memory, beside those that only make some -/
def AO.loud : AO → Bool
  | .st _ _ _ | .mup _ _ _ _ | .ment _ _ _ _ | .mst _ _ _ | .call _ _ | .callv _ _ | .app _ _ _ _ | .cpy _ _ _ | .del _ _ _ | .clr _ _ _ | .mark _ => true
  | _ => false

/-! ### values can be compared -/
mutual
def AV.q : AV → AV → Bool
  | .b p, .b q => p == q
  | .i p q, .i r u => decide (p = r) && decide (q = u)
  | .s p, .s q => decide (p = q)
  | .nilp, .nilp => true
  | .ptr p q, .ptr r u => decide (p = r) && decide (q = u)
  | .nils, .nils => true
  | .es, .es => true
  | .sl p q r u v, .sl p' q' r' u' v' => decide (p = p') && decide (q = q') && decide (r = r') && decide (u = u') && decide (v = v')
  | .nilm, .nilm => true
  | .mp p, .mp q => decide (p = q)
  | .nilf, .nilf => true
  | .fn p q r, .fn p' q' r' => decide (p = p') && decide (q = q') && decide (r = r')
  | .agg p, .agg q => AV.qs p q
  | .tup p, .tup q => AV.qs p q
  | .un, .un => true
  | _, _ => false
termination_by structural x => x
def AV.qs : List AV → List AV → Bool
  | [], [] => true
  | p :: q, r :: u => AV.q p r && AV.qs q u
  | _, _ => false
termination_by structural x => x
end
mutual
theorem AV.q_eq : ∀ (x y : AV), AV.q x y = true ↔ x = y
  | .b p, y => by cases y <;> simp [AV.q]
  | .i p q, y => by cases y <;> simp [AV.q]
  | .s p, y => by cases y <;> simp [AV.q]
  | .nilp, y => by cases y <;> simp [AV.q]
  | .ptr p q, y => by cases y <;> simp [AV.q]
  | .nils, y => by cases y <;> simp [AV.q]
  | .es, y => by cases y <;> simp [AV.q]
  | .sl p q r u v, y => by cases y <;> simp [AV.q, and_assoc]
  | .nilm, y => by cases y <;> simp [AV.q]
  | .mp p, y => by cases y <;> simp [AV.q]
  | .nilf, y => by cases y <;> simp [AV.q]
  | .fn p q r, y => by cases y <;> simp [AV.q, and_assoc]
  | .agg p, y => by
    cases y with
    | agg q => simp [AV.q, AV.qs_eq p q]
    | _ => simp [AV.q]
  | .tup p, y => by
    cases y with
    | tup q => simp [AV.q, AV.qs_eq p q]
    | _ => simp [AV.q]
  | .un, y => by cases y <;> simp [AV.q]
theorem AV.qs_eq : ∀ (x y : List AV), AV.qs x y = true ↔ x = y
  | [], y => by cases y <;> simp [AV.qs]
  | p :: q, y => by
    cases y with
    | nil => simp [AV.qs]
    | cons r u => simp [AV.qs, AV.q_eq p r, AV.qs_eq q u]
end
instance : DecidableEq AV := fun x y => decidable_of_iff _ (AV.q_eq x y)

/-! ### code -/
/-- how a piece of code ends -/
inductive XT where
  | nrm | ret | ex (id : Nat)
  deriving Inhabited, Repr, DecidableEq
/-- where a result lies: in a slot, or in a variable whose address a slot holds -/
inductive RV where
  | t (n : Nat)
  | cell (n : Nat) (sz : Option Nat)
  deriving Inhabited, Repr
/-- code; 'kp': the slots that are still known behind a region; 'rc': readers of a region whose order is open, and the states at which they are read again -/
inductive AC where
  | skip | ret
  | exit (id : Nat)
  | seq (a b : AC)
  | cond (c : AX) (t e : AC)
  | block (id : Nat) (b : AC)
  | loop (b : AC)
  | reg (ops : List AOp) (kp : List Nat)
  | regd (ops : List AOp) (rc : List (Nat × Nat)) (kp : List Nat)
  deriving Inhabited, Repr
structure AFun where
  np : Nat
  res : List RV
  body : AC
  deriving Inhabited
inductive AEnt where
  | fn (F : AFun)
  | spec (g : List AV → Option AV)

def keepE (kp : List Nat) (e : Env) : Env := kp.map fun k => (k, eget e k)
/-- the states ahead of each operation, with the value that it gives -/
def exTr (C : CallF) : List AOp → Env → AH → Option (List (Env × AH × AV) × Env × AH)
  | [], e, h => some ([], e, h)
  | o :: r, e, h =>
    match stepOp C o e h with
    | some (v, h') =>
      match exTr C r (eput e o.d v) h' with
      | some (tr, e', h'') => some ((e, h, v) :: tr, e', h'')
      | none => none
    | none => none
def rcOne (ops : List AOp) (tr : List (Env × AH × AV)) (hf : AH) (q : Nat × Nat) : Bool :=
  match ops[q.1]?, tr[q.1]? with
  | some o, some (e, _, v) =>
    match guarded e o.g with
    | some true => (match aop o.o e (((tr[q.2]?).map fun x => x.2.1).getD hf) with | some (v', _) => decide (v' = v) | none => false)
    | some false => true
    | none => false
  | _, _ => false
def rcOk (ops : List AOp) (tr : List (Env × AH × AV)) (hf : AH) (rc : List (Nat × Nat)) : Bool := rc.all (rcOne ops tr hf)

def exL (B : Env → AH → Option (XT × Env × AH)) : Nat → Env → AH → Option (XT × Env × AH)
  | 0, _, _ => none
  | n + 1, e, h =>
    match B e h with
    | some (.nrm, e', h') => exL B n e' h'
    | some (.ret, e', h') => some (.ret, e', h')
    | some (.ex i, e', h') => some (.ex i, e', h')
    | none => none
def exC (C : CallF) (n : Nat) : AC → Env → AH → Option (XT × Env × AH)
  | .skip, e, h => some (.nrm, e, h)
  | .ret, e, h => some (.ret, e, h)
  | .exit i, e, h => some (.ex i, e, h)
  | .seq a b, e, h =>
    match exC C n a e h with
    | some (.nrm, e', h') => exC C n b e' h'
    | some (.ret, e', h') => some (.ret, e', h')
    | some (.ex i, e', h') => some (.ex i, e', h')
    | none => none
  | .cond c t f, e, h =>
    match ev e c with
    | .b true => exC C n t e h
    | .b false => exC C n f e h
    | _ => none
  | .block i b, e, h =>
    match exC C n b e h with
    | some (.ex j, e', h') => if j = i then some (.nrm, e', h') else some (.ex j, e', h')
    | some (.nrm, e', h') => some (.nrm, e', h')
    | some (.ret, e', h') => some (.ret, e', h')
    | none => none
  | .loop b, e, h => exL (exC C n b) n e h
  | .reg ops kp, e, h =>
    match exOps C ops e h with
    | some (e', h') => some (.nrm, keepE kp e', h')
    | none => none
  | .regd ops rc kp, e, h =>
    match exTr C ops e h with
    | some (tr, e', h') => if rcOk ops tr h' rc then some (.nrm, keepE kp e', h') else none
    | none => none

def bindA : Nat → List AV → Env
  | _, [] => []
  | k, v :: r => (k, v) :: bindA (k + 1) r
def ares (r : RV) (e : Env) (h : AH) : Option AV :=
  match r with
  | .t n => some (eget e n)
  | .cell n sz => (aload sz (eget e n) h).map (·.1)
def aress : List RV → Env → AH → Option (List AV)
  | [], _, _ => some []
  | r :: rs, e, h =>
    match ares r e h, aress rs e h with
    | some v, some vs => some (v :: vs)
    | _, _ => none
def AV.isTup : AV → Bool
  | .tup _ => true
  | _ => false
/-- the results as one value -/
def tie : List AV → Option AV
  | [v] => some v
  | vs => if vs.any AV.isTup then none else some (.tup vs)
def exF (C : CallF) (n : Nat) (F : AFun) (args : List AV) (h : AH) : Option (AV × AH) :=
  if args.length = F.np then
    match exC C n F.body (bindA 0 args) h with
    | some (.nrm, e, h') | some (.ret, e, h') =>
      match aress F.res e h' with
      | some vs => (tie vs).map fun v => (v, h')
      | none => none
    | _ => none
  else none
abbrev AT := Nat → Option AEnt
def exN (T : AT) : Nat → CallF
  | 0, _, _, _ => none
  | n + 1, f, args, h =>
    match T f with
    | some (.fn F) => exF (exN T n) n F args h
    | some (.spec g) => (g args).map fun v => (v, h)
    | none => none
end Go.Proofs.Ytadbipeachcekaa.Ab
/- How the abstract machine's values and memory stand to the model's: a renaming of blocks; what a step keeps. -/
namespace Go.Proofs.Ytadbipeachcekaa.Ab
open Go
set_option linter.unusedVariables false

/-- element by element -/
def F2 {α β : Type} (R : α → β → Prop) : List α → List β → Prop
  | [], [] => True
  | x :: xs, y :: ys => R x y ∧ F2 R xs ys
  | _, _ => False
section
variable {α β : Type} {R S : α → β → Prop}
theorem F2.length : ∀ {xs : List α} {ys : List β}, F2 R xs ys → xs.length = ys.length
  | [], [], _ => rfl
  | _ :: _, _ :: _, h => by simp [F2.length h.2]
  | [], _ :: _, h => h.elim
  | _ :: _, [], h => h.elim
theorem F2.mono (hi : ∀ x y, R x y → S x y) : ∀ {xs : List α} {ys : List β}, F2 R xs ys → F2 S xs ys
  | [], [], _ => trivial
  | _ :: _, _ :: _, h => ⟨hi _ _ h.1, F2.mono hi h.2⟩
  | [], _ :: _, h => h.elim
  | _ :: _, [], h => h.elim
theorem F2.get : ∀ {xs : List α} {ys : List β}, F2 R xs ys → ∀ {j : Nat} {x : α}, xs[j]? = some x → ∃ y, ys[j]? = some y ∧ R x y
  | [], [], _, j, x, hx => by simp at hx
  | x :: xs, y :: ys, h, 0, _, hx => ⟨y, rfl, by simp at hx; subst hx; exact h.1⟩
  | x :: xs, y :: ys, h, j + 1, _, hx => by simpa using F2.get h.2 (j := j) (by simpa using hx)
  | [], _ :: _, h, _, _, _ => h.elim
  | _ :: _, [], h, _, _, _ => h.elim
theorem F2.of_get : ∀ {xs : List α} {ys : List β} (_ : xs.length = ys.length) (_ : ∀ (j : Nat) (x : α) (y : β), xs[j]? = some x → ys[j]? = some y → R x y), F2 R xs ys
  | [], [], _, _ => trivial
  | x :: xs, y :: ys, hl, h => ⟨h 0 x y rfl rfl, F2.of_get (by simpa using hl) fun j a b ha hb => h (j + 1) a b (by simpa using ha) (by simpa using hb)⟩
  | [], _ :: _, hl, _ => by simp at hl
  | _ :: _, [], hl, _ => by simp at hl
theorem F2.append {xs xs' : List α} {ys ys' : List β} (h : F2 R xs ys) (h' : F2 R xs' ys') : F2 R (xs ++ xs') (ys ++ ys') := by
  induction xs generalizing ys with
  | nil => cases ys with | nil => exact h' | cons => exact h.elim
  | cons x xs ih => cases ys with | nil => exact h.elim | cons y ys => exact ⟨h.1, ih h.2⟩
theorem F2.set {xs : List α} {ys : List β} (h : F2 R xs ys) (j : Nat) {x : α} {y : β} (hxy : R x y) : F2 R (xs.set j x) (ys.set j y) := by
  induction xs generalizing ys j with
  | nil => cases ys with | nil => exact h | cons => exact h.elim
  | cons a xs ih =>
    cases ys with
    | nil => exact h.elim
    | cons b ys =>
      cases j with
      | zero => exact ⟨hxy, h.2⟩
      | succ j => exact ⟨h.1, ih h.2 j⟩
theorem F2.drop {xs : List α} {ys : List β} (h : F2 R xs ys) (n : Nat) : F2 R (xs.drop n) (ys.drop n) := by
  induction n generalizing xs ys with
  | zero => exact h
  | succ n ih =>
    cases xs with
    | nil => cases ys with | nil => exact trivial | cons => exact h.elim
    | cons a xs => cases ys with | nil => exact h.elim | cons b ys => exact ih h.2
theorem F2.take {xs : List α} {ys : List β} (h : F2 R xs ys) (n : Nat) : F2 R (xs.take n) (ys.take n) := by
  induction n generalizing xs ys with
  | zero => exact trivial
  | succ n ih =>
    cases xs with
    | nil => cases ys with | nil => exact trivial | cons => exact h.elim
    | cons a xs => cases ys with | nil => exact h.elim | cons b ys => exact ⟨h.1, ih h.2⟩
theorem F2.map_left {γ : Type} {f : γ → α} : ∀ {_xs : List γ} {_ys : List β}, F2 R (_xs.map f) _ys ↔ F2 (fun x y => R (f x) y) _xs _ys
  | [], [] => Iff.rfl
  | _ :: xs, _ :: ys => and_congr Iff.rfl F2.map_left
  | [], _ :: _ => Iff.rfl
  | _ :: _, [] => Iff.rfl
theorem F2.eraseIdx {xs : List α} {ys : List β} (h : F2 R xs ys) (j : Nat) : F2 R (xs.eraseIdx j) (ys.eraseIdx j) := by
  induction xs generalizing ys j with
  | nil => cases ys with | nil => exact h | cons => exact h.elim
  | cons a xs ih =>
    cases ys with
    | nil => exact h.elim
    | cons b ys => cases j with | zero => exact h.2 | succ j => exact ⟨h.1, ih h.2 j⟩
end

/-- a block's number in the model, and how many cells it has there -/
abbrev Rho := Nat → Option (Nat × Nat)
abbrev Lk := Nat → Option FuncId

def PR (ρ : Rho) (p : Nat × Nat) (v : Value) : Prop := ∃ b t, ρ p.1 = some (b, t) ∧ v = .pointer (some ⟨b, p.2, none⟩)

inductive VC (lk : Lk) (ρ : Rho) : AV → Value → Prop
  | b (x : Bool) : VC lk ρ (.b x) (.bool x)
  | i (k : IntKind) (n : Int) : VC lk ρ (.i k n) (.int k n)
  | s (x : List UInt8) (y : ByteArray) (h : y.data.toList = x) : VC lk ρ (.s x) (.string y)
  | nilp : VC lk ρ .nilp (.pointer none)
  | ptr {id off b t : Nat} (h : ρ id = some (b, t)) : VC lk ρ (.ptr id off) (.pointer (some ⟨b, off, none⟩))
  | nils : VC lk ρ .nils (.slice none 0 0)
  | es (a : Addr) : VC lk ρ .es (.slice (some a) 0 0)
  | sl {id off len cap lo b t o c : Nat} (h : ρ id = some (b, t)) (h0 : len ≤ cap) (h1 : cap ≤ c) (h2 : lo = 0 → c = cap) (h3 : o = off ∨ c = 0) (h4 : lo ≠ 0 → o + c * lo ≤ t) :
      VC lk ρ (.sl id off len cap lo) (.slice (some ⟨b, o, none⟩) len c)
  | nilm : VC lk ρ .nilm (.map none)
  | mp {id b t : Nat} (h : ρ id = some (b, t)) : VC lk ρ (.mp id) (.map (some b))
  | nilf : VC lk ρ .nilf .nilFunc
  | fn {f : Nat} {g : FuncId} {first cap : List (Nat × Nat)} {first' cap' : Array Value} (hf : lk f = some g) (h1 : F2 (PR ρ) first first'.toList) (h2 : F2 (PR ρ) cap cap'.toList) :
      VC lk ρ (.fn f first cap) (.func (.func g) first' cap')

/-- a cell that may be unknown -/
def VU (lk : Lk) (ρ : Rho) (v : AV) (x : Value) : Prop := v = .un ∨ VC lk ρ v x
theorem VC.u {lk : Lk} {ρ : Rho} {v : AV} {x : Value} (h : VC lk ρ v x) : VU lk ρ v x := .inr h

inductive VR (lk : Lk) (ρ : Rho) : AV → Value → Prop
  | cell {v : AV} {x : Value} (h : VC lk ρ v x) : VR lk ρ v x
  | agg {cs : List AV} {xs : Array Value} (h : F2 (VC lk ρ) cs xs.toList) : VR lk ρ (.agg cs) (.agg xs)

inductive VO (lk : Lk) (ρ : Rho) : AV → Value → Prop
  | un (x : Value) : VO lk ρ .un x
  | one {v : AV} {x : Value} (h : VR lk ρ v x) : VO lk ρ v x

inductive VE (lk : Lk) (ρ : Rho) : AV → Value → Prop
  | of {v : AV} {x : Value} (h : VO lk ρ v x) : VE lk ρ v x
  | tup {vs : List AV} {xs : Array Value} (h : F2 (VO lk ρ) vs xs.toList) : VE lk ρ (.tup vs) (.tuple xs)

section
variable {lk : Lk} {ρ ρ' : Rho}
def Rho.le (ρ ρ' : Rho) : Prop := ∀ id x, ρ id = some x → ρ' id = some x
theorem PR.mono (h : ρ.le ρ') {p : Nat × Nat} {v : Value} (hp : PR ρ p v) : PR ρ' p v := by
  obtain ⟨b, t, h1, h2⟩ := hp
  exact ⟨b, t, h _ _ h1, h2⟩
theorem VC.mono (h : ρ.le ρ') {v : AV} {x : Value} (hv : VC lk ρ v x) : VC lk ρ' v x := by
  cases hv with
  | b => exact .b _
  | i => exact .i _ _
  | s _ _ h' => exact .s _ _ h'
  | nilp => exact .nilp
  | ptr h' => exact .ptr (h _ _ h')
  | nils => exact .nils
  | es a => exact .es a
  | sl h' h0 h1 h2 h3 h4 => exact .sl (h _ _ h') h0 h1 h2 h3 h4
  | nilm => exact .nilm
  | mp h' => exact .mp (h _ _ h')
  | nilf => exact .nilf
  | fn hf h1 h2 => exact .fn hf (h1.mono fun _ _ => PR.mono h) (h2.mono fun _ _ => PR.mono h)
theorem VU.mono (h : ρ.le ρ') {v : AV} {x : Value} (hv : VU lk ρ v x) : VU lk ρ' v x := hv.imp id (·.mono h)
theorem VR.mono (h : ρ.le ρ') {v : AV} {x : Value} (hv : VR lk ρ v x) : VR lk ρ' v x := by
  cases hv with
  | cell hc => exact .cell (hc.mono h)
  | agg hc => exact .agg (hc.mono fun _ _ => VC.mono h)
theorem VO.mono (h : ρ.le ρ') {v : AV} {x : Value} (hv : VO lk ρ v x) : VO lk ρ' v x := by
  cases hv with
  | un => exact .un _
  | one hc => exact .one (hc.mono h)
theorem VE.mono (h : ρ.le ρ') {v : AV} {x : Value} (hv : VE lk ρ v x) : VE lk ρ' v x := by
  cases hv with
  | of hc => exact .of (hc.mono h)
  | tup hc => exact .tup (hc.mono fun _ _ => VO.mono h)
theorem VC.one {v : AV} {x : Value} (h : VC lk ρ v x) : x.oneCell' = true := by cases h <;> rfl
theorem VC.cells {v : AV} {x : Value} (h : VC lk ρ v x) : x.cells = #[x] := by cases h <;> rfl
theorem VC.cl {v : AV} {x : Value} (h : VC lk ρ v x) : v.cl = some [v] := by cases h <;> rfl
theorem VE.i {k : IntKind} {n : Int} {x : Value} (h : VE lk ρ (.i k n) x) : x = .int k n := by
  cases h with | of h => cases h with | one h => cases h with | cell h => cases h; rfl
theorem VE.b {c : Bool} {x : Value} (h : VE lk ρ (.b c) x) : x = .bool c := by
  cases h with | of h => cases h with | one h => cases h with | cell h => cases h; rfl
theorem VE.s {l : List UInt8} {x : Value} (h : VE lk ρ (.s l) x) : ∃ y : ByteArray, y.data.toList = l ∧ x = .string y := by
  cases h with | of h => cases h with | one h => cases h with | cell h => cases h with | s _ y h => exact ⟨y, h, rfl⟩
theorem VE.ptr {id off : Nat} {x : Value} (h : VE lk ρ (.ptr id off) x) : ∃ b t, ρ id = some (b, t) ∧ x = .pointer (some ⟨b, off, none⟩) := by
  cases h with | of h => cases h with | one h => cases h with | cell h => cases h with | ptr h => exact ⟨_, _, h, rfl⟩
theorem VE.nilp {x : Value} (h : VE lk ρ .nilp x) : x = .pointer none := by
  cases h with | of h => cases h with | one h => cases h with | cell h => cases h; rfl
theorem VE.nils {x : Value} (h : VE lk ρ .nils x) : x = .slice none 0 0 := by
  cases h with | of h => cases h with | one h => cases h with | cell h => cases h; rfl
theorem VE.es {x : Value} (h : VE lk ρ .es x) : ∃ a, x = .slice (some a) 0 0 := by
  cases h with | of h => cases h with | one h => cases h with | cell h => cases h; exact ⟨_, rfl⟩
theorem VE.nilm {x : Value} (h : VE lk ρ .nilm x) : x = .map none := by
  cases h with | of h => cases h with | one h => cases h with | cell h => cases h; rfl
theorem VE.nilf {x : Value} (h : VE lk ρ .nilf x) : x = .nilFunc := by
  cases h with | of h => cases h with | one h => cases h with | cell h => cases h; rfl
theorem VE.mp {id : Nat} {x : Value} (h : VE lk ρ (.mp id) x) : ∃ b t, ρ id = some (b, t) ∧ x = .map (some b) := by
  cases h with | of h => cases h with | one h => cases h with | cell h => cases h with | mp h => exact ⟨_, _, h, rfl⟩
theorem VE.sl {id off len cap lo : Nat} {x : Value} (h : VE lk ρ (.sl id off len cap lo) x) :
    ∃ b t o c, ρ id = some (b, t) ∧ len ≤ cap ∧ cap ≤ c ∧ (lo = 0 → c = cap) ∧ (o = off ∨ c = 0) ∧ (lo ≠ 0 → o + c * lo ≤ t) ∧ x = .slice (some ⟨b, o, none⟩) len c := by
  cases h with | of h => cases h with | one h => cases h with | cell h => cases h with | sl h h0 h1 h2 h3 h4 => exact ⟨_, _, _, _, h, h0, h1, h2, h3, h4, rfl⟩
theorem VE.agg {cs : List AV} {x : Value} (h : VE lk ρ (.agg cs) x) : ∃ xs : Array Value, F2 (VC lk ρ) cs xs.toList ∧ x = .agg xs := by
  cases h with | of h => cases h with | one h => cases h with | cell h => cases h | agg h => exact ⟨_, h, rfl⟩
theorem VE.tup' {vs : List AV} {x : Value} (h : VE lk ρ (.tup vs) x) : ∃ xs : Array Value, F2 (VO lk ρ) vs xs.toList ∧ x = .tuple xs := by
  cases h with
  | of h => cases h with | one h => cases h with | cell h => cases h
  | tup h => exact ⟨_, h, rfl⟩
theorem VE.fn {f : Nat} {first cap : List (Nat × Nat)} {x : Value} (h : VE lk ρ (.fn f first cap) x) :
    ∃ g first' cap', lk f = some g ∧ F2 (PR ρ) first (Array.toList first') ∧ F2 (PR ρ) cap (Array.toList cap') ∧ x = .func (.func g) first' cap' := by
  cases h with | of h => cases h with | one h => cases h with | cell h => cases h with | fn h h1 h2 => exact ⟨_, _, _, h, h1, h2, rfl⟩
theorem VC.e {v : AV} {x : Value} (h : VC lk ρ v x) : VE lk ρ v x := .of (.one (.cell h))
theorem VR.e {v : AV} {x : Value} (h : VR lk ρ v x) : VE lk ρ v x := .of (.one h)
/-- what can be stored, cell by cell -/
theorem VE.cl {v : AV} {x : Value} (h : VE lk ρ v x) {cs : List AV} (hc : v.cl = some cs) : VR lk ρ v x ∧ F2 (VC lk ρ) cs x.cells.toList := by
  cases h with
  | tup h => simp [AV.cl] at hc
  | of h =>
    cases h with
    | un => simp [AV.cl] at hc
    | one h =>
      refine ⟨h, ?_⟩
      cases h with
      | cell h => rw [h.cl] at hc; cases hc; rw [h.cells]; exact ⟨h, trivial⟩
      | agg h => simp [AV.cl] at hc; subst hc; exact h
end

/-- an entry of a map -/
def ME (lk : Lk) (ρ : Rho) (e : AV × AV × Nat) (x : MapEntry) : Prop := VR lk ρ e.1 x.key ∧ VR lk ρ e.2.1 x.val ∧ e.2.2 = x.born

structure Rel (lk : Lk) (ρ : Rho) (h : AH) (w : World) : Prop where
  row : ∀ {id b t : Nat} {cs : List AV} {ro : Bool}, ρ id = some (b, t) → h.blk id = some (.row cs ro) →
    ∃ cur ty fz, w.heap[b]? = some (.cells cur ty fz) ∧ cur.size = t ∧ cs.length ≤ t ∧ (ro = false → fz.1 ≤ fz.2 ∧ ∀ j, j < t → ¬ (fz.1 ≤ j ∧ j < fz.2)) ∧
      ∀ (j : Nat) (x : AV), cs[j]? = some x → ∃ y, cur[j]? = some y ∧ VU lk ρ x y
  map : ∀ {id b t : Nat} {es : List (AV × AV × Nat)} {cl : Nat}, ρ id = some (b, t) → h.blk id = some (.map es cl) →
    ∃ es' : Array MapEntry, w.heap[b]? = some (.map es' cl) ∧ F2 (ME lk ρ) es es'.toList
  inj : ∀ {i j b t b' t' : Nat}, ρ i = some (b, t) → ρ j = some (b', t') → h.blk i ≠ none → h.blk j ≠ none → b = b' → i = j
  lt : ∀ {id b t : Nat}, ρ id = some (b, t) → b < w.heap.size
  wf : ∀ id, h.next ≤ id → h.blk id = none

def Live (ρ : Rho) (h : AH) (b : Nat) : Prop := ∃ id t, ρ id = some (b, t) ∧ h.blk id ≠ none
/-- blocks that may be written -/
def Wr (ρ : Rho) (h : AH) (b : Nat) : Prop := ∃ id t x, ρ id = some (b, t) ∧ h.blk id = some x ∧ ∀ cs, x ≠ .row cs true

structure Stp (ρ : Rho) (h : AH) (w : World) (ρ' : Rho) (h' : AH) (w' : World) : Prop where
  ag : ∀ id, id < h.next ∨ h'.next ≤ id → ρ' id = ρ id
  nx : h.next ≤ h'.next
  un : ∀ id, id < h.next → ρ id = none → h'.blk id = h.blk id
  lv : ∀ b, b < w.heap.size → Live ρ' h' b → Live ρ h b
  wl : ∀ b, b < w.heap.size → Wr ρ' h' b → Wr ρ h b
  sm : ∀ b, b < w.heap.size → ¬ Wr ρ h b → w'.heap[b]? = w.heap[b]?
  sz : w.heap.size ≤ w'.heap.size
  os : w'.os = w.os
  tape : w'.tape = w.tape
  output : w'.output = w.output

/-- the numbers that a step will give are free -/
def Free (ρ : Rho) (a b : Nat) : Prop := ∀ id, a ≤ id → id < b → ρ id = none

theorem Stp.le {ρ ρ' : Rho} {h h' : AH} {w w' : World} (s : Stp ρ h w ρ' h' w') (f : Free ρ h.next h'.next) : ρ.le ρ' := by
  intro id x hx
  rw [s.ag id ?_]
  · exact hx
  · rcases Nat.lt_or_ge id h.next with h1 | h1
    · exact .inl h1
    · rcases Nat.lt_or_ge id h'.next with h2 | h2
      · rw [f id h1 h2] at hx; cases hx
      · exact .inr h2

theorem Stp.refl (ρ : Rho) (h : AH) (w : World) : Stp ρ h w ρ h w :=
  ⟨fun _ _ => rfl, Nat.le_refl _, fun _ _ _ => rfl, fun _ _ h => h, fun _ _ h => h, fun _ _ _ => rfl, Nat.le_refl _, rfl, rfl, rfl⟩

theorem Stp.trans {ρ ρ1 ρ2 : Rho} {h h1 h2 : AH} {w w1 w2 : World} (s : Stp ρ h w ρ1 h1 w1) (s' : Stp ρ1 h1 w1 ρ2 h2 w2) : Stp ρ h w ρ2 h2 w2 where
  ag id hid := by
    have n1 := s.nx
    have n2 := s'.nx
    rw [s'.ag id (by omega), s.ag id (by omega)]
  nx := Nat.le_trans s.nx s'.nx
  un id hid hr := by
    have n1 := s.nx
    rw [s'.un id (by omega) (by rw [s.ag id (.inl hid)]; exact hr), s.un id hid hr]
  lv b hb hl := s.lv b hb (s'.lv b (Nat.lt_of_lt_of_le hb s.sz) hl)
  wl b hb hl := s.wl b hb (s'.wl b (Nat.lt_of_lt_of_le hb s.sz) hl)
  sm b hb hn := by
    rw [s'.sm b (Nat.lt_of_lt_of_le hb s.sz) (fun h => hn (s.wl b hb h)), s.sm b hb hn]
  sz := Nat.le_trans s.sz s'.sz
  os := s'.os.trans s.os
  tape := s'.tape.trans s.tape
  output := s'.output.trans s.output

theorem Free.fst {ρ : Rho} {a b c : Nat} (h : Free ρ a c) (hb : b ≤ c) : Free ρ a b := fun id h1 h2 => h id h1 (Nat.lt_of_lt_of_le h2 hb)
theorem Free.snd {ρ ρ1 : Rho} {h h1 : AH} {w w1 : World} (s : Stp ρ h w ρ1 h1 w1) {c : Nat} (f : Free ρ h.next c) : Free ρ1 h1.next c :=
  fun id ha hb => by rw [s.ag id (.inr ha)]; exact f id (Nat.le_trans s.nx ha) hb

/-! ### a draw, a new block -/
theorem Rel.drew {lk : Lk} {ρ : Rho} {h : AH} {w : World} (r : Rel lk ρ h w) : Rel lk ρ h w.drew := ⟨r.row, r.map, r.inj, r.lt, r.wf⟩
theorem Stp.drew (ρ : Rho) (h : AH) (w : World) : Stp ρ h w ρ h w.drew :=
  ⟨fun _ _ => rfl, Nat.le_refl _, fun _ _ _ => rfl, fun _ _ h => h, fun _ _ h => h, fun _ _ _ => rfl, Nat.le_refl _, rfl, rfl, rfl⟩

def Rho.add (ρ : Rho) (id b t : Nat) : Rho := fun j => if j = id then some (b, t) else ρ j
theorem Rho.add_same (ρ : Rho) (id b t : Nat) : ρ.add id b t id = some (b, t) := by simp [Rho.add]
theorem Rho.add_ne (ρ : Rho) {id b t j : Nat} (h : j ≠ id) : ρ.add id b t j = ρ j := by simp [Rho.add, h]
theorem Rho.add_le {ρ : Rho} {id b t : Nat} (h : ρ id = none) : ρ.le (ρ.add id b t) := fun j x hx => by
  rw [Rho.add_ne _ (fun e => by subst e; rw [h] at hx; cases hx)]; exact hx

theorem blk_alloc_same (h : AH) (x : Blk) : (h.alloc x).blk h.next = some x := by simp [AH.alloc]
theorem blk_alloc_ne {h : AH} {x : Blk} {j : Nat} (hj : j ≠ h.next) : (h.alloc x).blk j = h.blk j := by simp [AH.alloc, hj]
theorem next_alloc (h : AH) (x : Blk) : (h.alloc x).next = h.next + 1 := rfl
theorem blk_set_same (h : AH) (id : Nat) (x : Option Blk) : (h.set id x).blk id = x := by simp [AH.set]
theorem blk_set_ne {h : AH} {id : Nat} {x : Option Blk} {j : Nat} (hj : j ≠ id) : (h.set id x).blk j = h.blk j := by simp [AH.set, hj]
theorem next_set (h : AH) (id : Nat) (x : Option Blk) : (h.set id x).next = h.next := rfl

section
variable {lk : Lk} {ρ : Rho} {h : AH} {w : World}
theorem heap_alloc_lt {o : Obj} {b : Nat} (hb : b < w.heap.size) : (w.alloc o).heap[b]? = w.heap[b]? := Go.RowKit.Below.heap_alloc w o b hb

/-- a new row of cells -/
theorem Rel.allocRow (r : Rel lk ρ h w) (f : ρ h.next = none) {cs : List AV} {cur : Array Value} {ty : TypeId} {fz : Nat × Nat} (hl : cs.length ≤ cur.size)
    (hz : fz.1 ≤ fz.2 ∧ ∀ j, j < cur.size → ¬ (fz.1 ≤ j ∧ j < fz.2)) (hc : ∀ (j : Nat) (x : AV), cs[j]? = some x → ∃ y, cur[j]? = some y ∧ VC lk ρ x y) :
    Rel lk (ρ.add h.next w.heap.size cur.size) (h.alloc (.row cs false)) (w.alloc (.cells cur ty fz)) ∧
      Stp ρ h w (ρ.add h.next w.heap.size cur.size) (h.alloc (.row cs false)) (w.alloc (.cells cur ty fz)) := by
  have hle := Rho.add_le (b := w.heap.size) (t := cur.size) f
  have old : ∀ {id b t}, (ρ.add h.next w.heap.size cur.size) id = some (b, t) → id ≠ h.next → ρ id = some (b, t) := fun h1 h2 => by rwa [Rho.add_ne _ h2] at h1
  have new : ∀ {b t}, (ρ.add h.next w.heap.size cur.size) h.next = some (b, t) → b = w.heap.size ∧ t = cur.size := fun h1 => by
    rw [Rho.add_same] at h1; cases h1; exact ⟨rfl, rfl⟩
  refine ⟨⟨?_, ?_, ?_, ?_, ?_⟩, ⟨?_, ?_, ?_, ?_, ?_, ?_, ?_, rfl, rfl, rfl⟩⟩
  · intro id b t cs' ro hi hb
    by_cases e : id = h.next
    · subst e
      obtain ⟨rfl, rfl⟩ := new hi
      rw [blk_alloc_same] at hb
      cases hb
      refine ⟨cur, ty, fz, heap_alloc_new w _, rfl, hl, fun _ => hz, fun j x hx => ?_⟩
      obtain ⟨y, h1, h2⟩ := hc j x hx
      exact ⟨y, h1, (h2.mono hle).u⟩
    · have hi' := old hi e
      rw [blk_alloc_ne e] at hb
      obtain ⟨cur', ty', fz', h1, h2, h3, h4, h5⟩ := r.row hi' hb
      refine ⟨cur', ty', fz', by rw [heap_alloc_lt (r.lt hi')]; exact h1, h2, h3, h4, fun j x hx => ?_⟩
      obtain ⟨y, h6, h7⟩ := h5 j x hx
      exact ⟨y, h6, h7.mono hle⟩
  · intro id b t es cl hi hb
    have e : id ≠ h.next := fun e => by subst e; rw [blk_alloc_same] at hb; cases hb
    have hi' := old hi e
    rw [blk_alloc_ne e] at hb
    obtain ⟨es', h1, h2⟩ := r.map hi' hb
    exact ⟨es', by rw [heap_alloc_lt (r.lt hi')]; exact h1, h2.mono fun _ _ ⟨a, b, c⟩ => ⟨a.mono hle, b.mono hle, c⟩⟩
  · intro i j b t b' t' hi hj hbi hbj e
    subst e
    by_cases ei : i = h.next
    · by_cases ej : j = h.next
      · rw [ei, ej]
      · subst ei
        have := (new hi).1
        have := r.lt (old hj ej)
        omega
    · by_cases ej : j = h.next
      · subst ej
        have := (new hj).1
        have := r.lt (old hi ei)
        omega
      · rw [blk_alloc_ne ei] at hbi
        rw [blk_alloc_ne ej] at hbj
        exact r.inj (old hi ei) (old hj ej) hbi hbj rfl
  · intro id b t hi
    by_cases e : id = h.next
    · subst e
      have := (new hi).1
      simp; omega
    · have := r.lt (old hi e)
      simp; omega
  · intro id hid
    rw [blk_alloc_ne (by simp only [next_alloc] at hid; omega)]
    exact r.wf id (by simp only [next_alloc] at hid; omega)
  · intro id hid
    exact Rho.add_ne _ (by simp only [next_alloc] at hid; omega)
  · exact Nat.le_succ _
  · intro id hid _
    exact blk_alloc_ne (by omega)
  · rintro b hb ⟨id, t, hi, hl⟩
    by_cases e : id = h.next
    · subst e
      have := (new hi).1
      omega
    · exact ⟨id, t, old hi e, by rwa [blk_alloc_ne e] at hl⟩
  · rintro b hb ⟨id, t, x, hi, hx, hn⟩
    by_cases e : id = h.next
    · subst e
      have := (new hi).1
      omega
    · exact ⟨id, t, x, old hi e, by rwa [blk_alloc_ne e] at hx, hn⟩
  · intro b hb _
    exact heap_alloc_lt hb
  · simp

/-- a new map -/
theorem Rel.allocMap (r : Rel lk ρ h w) (f : ρ h.next = none) :
    Rel lk (ρ.add h.next w.heap.size 0) (h.alloc (.map [] 0)) (w.alloc (.map #[] 0)) ∧ Stp ρ h w (ρ.add h.next w.heap.size 0) (h.alloc (.map [] 0)) (w.alloc (.map #[] 0)) := by
  have hle := Rho.add_le (b := w.heap.size) (t := 0) f
  have old : ∀ {id b t}, (ρ.add h.next w.heap.size 0) id = some (b, t) → id ≠ h.next → ρ id = some (b, t) := fun h1 h2 => by rwa [Rho.add_ne _ h2] at h1
  have new : ∀ {b t}, (ρ.add h.next w.heap.size 0) h.next = some (b, t) → b = w.heap.size := fun h1 => by
    rw [Rho.add_same] at h1; cases h1; rfl
  refine ⟨⟨?_, ?_, ?_, ?_, ?_⟩, ⟨?_, ?_, ?_, ?_, ?_, ?_, ?_, rfl, rfl, rfl⟩⟩
  · intro id b t cs' ro hi hb
    have e : id ≠ h.next := fun e => by subst e; rw [blk_alloc_same] at hb; cases hb
    have hi' := old hi e
    rw [blk_alloc_ne e] at hb
    obtain ⟨cur', ty', fz', h1, h2, h3, h4, h5⟩ := r.row hi' hb
    refine ⟨cur', ty', fz', by rw [heap_alloc_lt (r.lt hi')]; exact h1, h2, h3, h4, fun j x hx => ?_⟩
    obtain ⟨y, h6, h7⟩ := h5 j x hx
    exact ⟨y, h6, h7.mono hle⟩
  · intro id b t es cl hi hb
    by_cases e : id = h.next
    · subst e
      have := new hi
      subst this
      rw [blk_alloc_same] at hb
      cases hb
      exact ⟨#[], heap_alloc_new w _, trivial⟩
    · have hi' := old hi e
      rw [blk_alloc_ne e] at hb
      obtain ⟨es', h1, h2⟩ := r.map hi' hb
      exact ⟨es', by rw [heap_alloc_lt (r.lt hi')]; exact h1, h2.mono fun _ _ ⟨a, b, c⟩ => ⟨a.mono hle, b.mono hle, c⟩⟩
  · intro i j b t b' t' hi hj hbi hbj e
    subst e
    by_cases ei : i = h.next
    · by_cases ej : j = h.next
      · rw [ei, ej]
      · subst ei
        have := new hi
        have := r.lt (old hj ej)
        omega
    · by_cases ej : j = h.next
      · subst ej
        have := new hj
        have := r.lt (old hi ei)
        omega
      · rw [blk_alloc_ne ei] at hbi
        rw [blk_alloc_ne ej] at hbj
        exact r.inj (old hi ei) (old hj ej) hbi hbj rfl
  · intro id b t hi
    by_cases e : id = h.next
    · subst e
      have := new hi
      simp; omega
    · have := r.lt (old hi e)
      simp; omega
  · intro id hid
    rw [blk_alloc_ne (by simp only [next_alloc] at hid; omega)]
    exact r.wf id (by simp only [next_alloc] at hid; omega)
  · intro id hid
    exact Rho.add_ne _ (by simp only [next_alloc] at hid; omega)
  · exact Nat.le_succ _
  · intro id hid _
    exact blk_alloc_ne (by omega)
  · rintro b hb ⟨id, t, hi, hl⟩
    by_cases e : id = h.next
    · subst e
      have := new hi
      omega
    · exact ⟨id, t, old hi e, by rwa [blk_alloc_ne e] at hl⟩
  · rintro b hb ⟨id, t, x, hi, hx, hn⟩
    by_cases e : id = h.next
    · subst e
      have := new hi
      omega
    · exact ⟨id, t, x, old hi e, by rwa [blk_alloc_ne e] at hx, hn⟩
  · intro b hb _
    exact heap_alloc_lt hb
  · simp
end

/-! ### stores -/
/-- cells laid over a row, one behind the other -/
def setA (cur : Array Value) : Nat → List Value → Array Value
  | _, [] => cur
  | o, v :: r => setA (cur.setIfInBounds o v) (o + 1) r
theorem size_setA : ∀ (vs : List Value) (o : Nat) (cur : Array Value), (setA cur o vs).size = cur.size
  | [], _, _ => rfl
  | v :: r, o, cur => by rw [setA, size_setA r]; simp
theorem length_setl : ∀ (vs : List AV) (o : Nat) (cs : List AV), (setl cs o vs).length = cs.length
  | [], _, _ => rfl
  | v :: r, o, cs => by rw [setl, length_setl r]; simp
theorem setl_A {R : AV → Value → Prop} : ∀ (vs : List AV) (xs : List Value), F2 R vs xs → ∀ (o : Nat) (cs : List AV) (cur : Array Value),
    (∀ (j : Nat) (x : AV), cs[j]? = some x → ∃ y, cur[j]? = some y ∧ R x y) →
    ∀ (j : Nat) (x : AV), (setl cs o vs)[j]? = some x → ∃ y, (setA cur o xs)[j]? = some y ∧ R x y
  | [], [], _, o, cs, cur, hc => hc
  | v :: vs, x :: xs, h, o, cs, cur, hc => by
    refine setl_A vs xs h.2 (o + 1) _ _ fun j y hy => ?_
    rw [List.getElem?_set] at hy
    split at hy
    · rename_i e
      subst e
      split at hy
      · rename_i hlt
        cases hy
        obtain ⟨z, hz, _⟩ := hc o _ (List.getElem?_eq_getElem hlt)
        have := (Array.getElem?_eq_some_iff.1 hz).1
        exact ⟨x, by simp [this], h.1⟩
      · cases hy
    · rename_i e
      obtain ⟨z, hz, hr⟩ := hc j y hy
      exact ⟨z, by rw [Array.getElem?_setIfInBounds_ne e]; exact hz, hr⟩
  | [], _ :: _, h, _, _, _, _ => h.elim
  | _ :: _, [], h, _, _, _, _ => h.elim

theorem heap_setCell_same {w : World} {b o : Nat} {v : Value} {cur : Array Value} {ty : TypeId} {fz : Nat × Nat} (hb : w.heap[b]? = some (.cells cur ty fz)) :
    (w.setCell ⟨b, o, none⟩ v).heap[b]? = some (.cells (cur.setIfInBounds o v) ty fz) := by
  simp [World.setCell, Array.getElem?_modify, hb]
theorem heap_setCell_ne {w : World} {b o b' : Nat} {v : Value} (h : b' ≠ b) : (w.setCell ⟨b, o, none⟩ v).heap[b']? = w.heap[b']? := by
  simp only [World.setCell, Array.getElem?_modify]
  rw [if_neg (by simpa using Ne.symm h)]
theorem heap_setCells_same {b : Nat} {ty : TypeId} {fz : Nat × Nat} : ∀ (vs : List Value) (o : Nat) (w : World) (cur : Array Value), w.heap[b]? = some (.cells cur ty fz) →
    (w.setCells b o vs).heap[b]? = some (.cells (setA cur o vs) ty fz)
  | [], _, _, _, h => h
  | v :: r, o, w, cur, h => by rw [World.setCells, setA]; exact heap_setCells_same r (o + 1) _ _ (heap_setCell_same h)
theorem heap_setCells_ne {b b' : Nat} (hne : b' ≠ b) : ∀ (vs : List Value) (o : Nat) (w : World), (w.setCells b o vs).heap[b']? = w.heap[b']?
  | [], _, _ => rfl
  | v :: r, o, w => by rw [World.setCells, heap_setCells_ne hne r, heap_setCell_ne hne]
theorem size_setCells {b : Nat} : ∀ (vs : List Value) (o : Nat) (w : World), (w.setCells b o vs).heap.size = w.heap.size
  | [], _, _ => rfl
  | v :: r, o, w => by rw [World.setCells, size_setCells r]; simp
theorem rest_setCells {b : Nat} : ∀ (vs : List Value) (o : Nat) (w : World), (w.setCells b o vs).os = w.os ∧ (w.setCells b o vs).tape = w.tape ∧ (w.setCells b o vs).output = w.output
  | [], _, _ => ⟨rfl, rfl, rfl⟩
  | v :: r, o, w => by rw [World.setCells]; exact rest_setCells r _ _
theorem run_storeRow {P : Program} {w : World} {b o : Nat} {cur : Array Value} {ty : TypeId} {fz : Nat × Nat} (vs : List Value) (hb : w.heap[b]? = some (.cells cur ty fz))
    (hl : o + vs.length ≤ cur.size) (hz : ∀ j, j < cur.size → ¬ (fz.1 ≤ j ∧ j < fz.2)) (h1 : ∀ v ∈ vs, v.oneCell' = true) :
    (storeCells ⟨b, o, none⟩ vs).run P w = .ok () (w.setCells b o vs) := by
  have := run_storeCells_cells (P := P) b o vs 0 w (fun j hj => by
      rw [World.cell?]; simp only [hb]; simp; omega)
    (fun j hj => by
      have := hz (o + j) (by omega)
      simp only [World.frozen?, hb, Nat.add_zero]
      simp; omega) h1
  simpa using this
theorem run_loadRow {P : Program} {w : World} {b o : Nat} {cur : Array Value} {ty : TypeId} {fz : Nat × Nat} (hb : w.heap[b]? = some (.cells cur ty fz)) (n : Nat) (hl : o + n ≤ cur.size) :
    (loadCells ⟨b, o, none⟩ n).run P w = .ok ((cur.toList.drop o).take n).toArray w := by
  have h := run_loadCells_list (P := P) w ⟨b, o, none⟩ ((cur.toList.drop o).take n) (fun j v hj => by
    rw [List.getElem?_take] at hj
    split at hj
    · rw [List.getElem?_drop] at hj
      simp only [Addr.add_lit, World.cell?, hb]
      simpa using hj
    · cases hj)
  have hn : ((cur.toList.drop o).take n).length = n := by simp; omega
  rw [hn] at h
  exact h
theorem F2.one {lk : Lk} {ρ : Rho} {cs : List AV} {xs : List Value} (h : F2 (VC lk ρ) cs xs) : ∀ v ∈ xs, v.oneCell' = true := by
  induction cs generalizing xs with
  | nil => cases xs with | nil => simp | cons => exact h.elim
  | cons c cs ih =>
    cases xs with
    | nil => exact h.elim
    | cons x xs =>
      intro v hv
      rcases List.mem_cons.1 hv with rfl | hv
      · exact h.1.one
      · exact ih h.2 v hv

section
variable {lk : Lk} {ρ : Rho} {h : AH} {w : World}
/-- cells written over a row that may be written -/
theorem Rel.store (r : Rel lk ρ h w) {id b t off : Nat} {cs vs : List AV} {xs : List Value} (hi : ρ id = some (b, t)) (hb : h.blk id = some (.row cs false)) (hv : F2 (VC lk ρ) vs xs) :
    Rel lk ρ (h.set id (some (.row (setl cs off vs) false))) (w.setCells b off xs) ∧ Stp ρ h w ρ (h.set id (some (.row (setl cs off vs) false))) (w.setCells b off xs) := by
  obtain ⟨cur, ty, fz, h1, h2, h3, h4, h5⟩ := r.row hi hb
  have hne : ∀ {j b' t'}, ρ j = some (b', t') → h.blk j ≠ none → j ≠ id → b' ≠ b := fun hj hl hji e => hji (r.inj hj hi hl (by rw [hb]; simp) e)
  refine ⟨⟨?_, ?_, ?_, ?_, ?_⟩, ⟨fun _ _ => rfl, Nat.le_refl _, ?_, ?_, ?_, ?_, ?_, (rest_setCells _ _ _).1, (rest_setCells _ _ _).2.1, (rest_setCells _ _ _).2.2⟩⟩
  · intro j b' t' cs' ro hj hbj
    by_cases e : j = id
    · subst e
      rw [hi] at hj
      cases hj
      rw [blk_set_same] at hbj
      cases hbj
      exact ⟨setA cur off xs, ty, fz, heap_setCells_same _ _ _ _ h1, by rw [size_setA]; exact h2, by rw [length_setl]; exact h3, h4, setl_A vs xs (hv.mono fun _ _ => VC.u) off cs cur h5⟩
    · rw [blk_set_ne e] at hbj
      obtain ⟨cur', ty', fz', g1, g2, g3, g4, g5⟩ := r.row hj hbj
      exact ⟨cur', ty', fz', by rw [heap_setCells_ne (hne hj (by rw [hbj]; simp) e)]; exact g1, g2, g3, g4, g5⟩
  · intro j b' t' es cl hj hbj
    have e : j ≠ id := fun e => by subst e; rw [blk_set_same] at hbj; cases hbj
    rw [blk_set_ne e] at hbj
    obtain ⟨es', g1, g2⟩ := r.map hj hbj
    exact ⟨es', by rw [heap_setCells_ne (hne hj (by rw [hbj]; simp) e)]; exact g1, g2⟩
  · intro i j bi ti bj tj hi' hj' hbi hbj e
    have live : ∀ {k}, (h.set id (some (.row (setl cs off vs) false))).blk k ≠ none → h.blk k ≠ none := fun {k} hk => by
      by_cases e : k = id
      · subst e; rw [hb]; simp
      · rwa [blk_set_ne e] at hk
    exact r.inj hi' hj' (live hbi) (live hbj) e
  · intro j b' t' hj
    rw [size_setCells]
    exact r.lt hj
  · intro j hj
    rw [blk_set_ne (fun e => by subst e; have := r.wf j hj; rw [hb] at this; cases this)]
    exact r.wf j hj
  · intro j hj hr
    exact blk_set_ne (fun e => by subst e; rw [hi] at hr; cases hr)
  · rintro b' hb' ⟨j, t', hj, hl⟩
    by_cases e : j = id
    · subst e; exact ⟨j, t', hj, by rw [hb]; simp⟩
    · exact ⟨j, t', hj, by rwa [blk_set_ne e] at hl⟩
  · rintro b' hb' ⟨j, t', x, hj, hx, hn⟩
    by_cases e : j = id
    · subst e; exact ⟨j, t', _, hj, hb, by simp⟩
    · exact ⟨j, t', x, hj, by rwa [blk_set_ne e] at hx, hn⟩
  · intro b' hb' hn
    exact heap_setCells_ne (fun e => hn ⟨id, t, _, by rw [e]; exact hi, hb, by simp⟩) _ _ _
  · rw [size_setCells]; exact Nat.le_refl _
/-- a row that nobody looks at any more -/
theorem Rel.kill (r : Rel lk ρ h w) (id : Nat) {b t : Nat} (hi : ρ id = some (b, t)) : Rel lk ρ (h.set id none) w ∧ Stp ρ h w ρ (h.set id none) w := by
  have live : ∀ {k}, (h.set id none).blk k ≠ none → k ≠ id := fun {k} hk e => by subst e; exact hk (blk_set_same h k none)
  refine ⟨⟨?_, ?_, ?_, r.lt, ?_⟩, ⟨fun _ _ => rfl, Nat.le_refl _, ?_, ?_, ?_, fun _ _ _ => rfl, Nat.le_refl _, rfl, rfl, rfl⟩⟩
  · intro j b' t' cs ro hj hbj
    have e := live (k := j) (by rw [hbj]; simp)
    rw [blk_set_ne e] at hbj
    exact r.row hj hbj
  · intro j b' t' es cl hj hbj
    have e := live (k := j) (by rw [hbj]; simp)
    rw [blk_set_ne e] at hbj
    exact r.map hj hbj
  · intro i j bi ti bj tj hi' hj' hbi hbj e
    have ei := live hbi
    have ej := live hbj
    rw [blk_set_ne ei] at hbi
    rw [blk_set_ne ej] at hbj
    exact r.inj hi' hj' hbi hbj e
  · intro j hj
    by_cases e : j = id
    · subst e; exact blk_set_same _ _ _
    · rw [blk_set_ne e]; exact r.wf j hj
  · intro j hj hr
    exact blk_set_ne (fun e => by subst e; rw [hi] at hr; cases hr)
  · rintro b' _ ⟨j, t', hj, hl⟩
    have e := live hl
    exact ⟨j, t', hj, by rwa [blk_set_ne e] at hl⟩
  · rintro b' _ ⟨j, t', x, hj, hx, hn⟩
    have e := live (k := j) (by rw [hx]; simp)
    exact ⟨j, t', x, hj, by rwa [blk_set_ne e] at hx, hn⟩

/-- a row that grows in its place: it gets a number of its own -/
theorem Rel.move (r : Rel lk ρ h w) (f : ρ h.next = none) {id b t : Nat} {cs cs' : List AV} (hi : ρ id = some (b, t)) (hb : h.blk id = some (.row cs false)) {o : Nat} {xs : List Value}
    (hl : cs'.length ≤ t) (hc : ∀ (cur : Array Value), (∀ (j : Nat) (x : AV), cs[j]? = some x → ∃ y, cur[j]? = some y ∧ VU lk ρ x y) → cur.size = t →
      ∀ (j : Nat) (x : AV), cs'[j]? = some x → ∃ y, (setA cur o xs)[j]? = some y ∧ VU lk ρ x y) :
    Rel lk (ρ.add h.next b t) ((h.set id none).alloc (.row cs' false)) (w.setCells b o xs) ∧ Stp ρ h w (ρ.add h.next b t) ((h.set id none).alloc (.row cs' false)) (w.setCells b o xs) := by
  obtain ⟨cur, ty, fz, h1, h2, h3, h4, h5⟩ := r.row hi hb
  have hle := Rho.add_le (b := b) (t := t) f
  have hidn : id < h.next := by
    rcases Nat.lt_or_ge id h.next with e | e
    · exact e
    · rw [r.wf id e] at hb; cases hb
  have hne : ∀ {j b' t'}, ρ j = some (b', t') → h.blk j ≠ none → j ≠ id → b' ≠ b := fun hj hl hji e => hji (r.inj hj hi hl (by rw [hb]; simp) e)
  have old : ∀ {id' b' t'}, (ρ.add h.next b t) id' = some (b', t') → id' ≠ h.next → ρ id' = some (b', t') := fun h1 h2 => by rwa [Rho.add_ne _ h2] at h1
  have new : ∀ {b' t'}, (ρ.add h.next b t) h.next = some (b', t') → b' = b ∧ t' = t := fun h1 => by
    rw [Rho.add_same] at h1; cases h1; exact ⟨rfl, rfl⟩
  have bn : ((h.set id none).alloc (.row cs' false)).blk h.next = some (.row cs' false) := blk_alloc_same (h.set id none) _
  have bi : ((h.set id none).alloc (.row cs' false)).blk id = none := by
    rw [blk_alloc_ne (by rw [next_set]; omega), blk_set_same]
  have bo : ∀ {j}, j ≠ h.next → j ≠ id → ((h.set id none).alloc (.row cs' false)).blk j = h.blk j := fun e1 e2 => by
    rw [blk_alloc_ne (by rw [next_set]; exact e1), blk_set_ne e2]
  refine ⟨⟨?_, ?_, ?_, ?_, ?_⟩, ⟨?_, Nat.le_succ _, ?_, ?_, ?_, ?_, ?_, (rest_setCells _ _ _).1, (rest_setCells _ _ _).2.1, (rest_setCells _ _ _).2.2⟩⟩
  · intro j b' t' cs'' ro hj hbj
    by_cases e : j = h.next
    · subst e
      obtain ⟨rfl, rfl⟩ := new hj
      rw [bn] at hbj
      cases hbj
      refine ⟨setA cur o xs, ty, fz, heap_setCells_same _ _ _ _ h1, by rw [size_setA]; exact h2, hl, h4, fun j x hx => ?_⟩
      obtain ⟨y, g1, g2⟩ := hc cur h5 h2 j x hx
      exact ⟨y, g1, g2.mono hle⟩
    · by_cases e2 : j = id
      · subst e2; rw [bi] at hbj; cases hbj
      · rw [bo e e2] at hbj
        obtain ⟨cur', ty', fz', g1, g2, g3, g4, g5⟩ := r.row (old hj e) hbj
        refine ⟨cur', ty', fz', by rw [heap_setCells_ne (hne (old hj e) (by rw [hbj]; simp) e2)]; exact g1, g2, g3, g4, fun j x hx => ?_⟩
        obtain ⟨y, g6, g7⟩ := g5 j x hx
        exact ⟨y, g6, g7.mono hle⟩
  · intro j b' t' es cl hj hbj
    have e : j ≠ h.next := fun e => by subst e; rw [bn] at hbj; cases hbj
    have e2 : j ≠ id := fun e => by subst e; rw [bi] at hbj; cases hbj
    rw [bo e e2] at hbj
    obtain ⟨es', g1, g2⟩ := r.map (old hj e) hbj
    exact ⟨es', by rw [heap_setCells_ne (hne (old hj e) (by rw [hbj]; simp) e2)]; exact g1, g2.mono fun _ _ ⟨a, b, c⟩ => ⟨a.mono hle, b.mono hle, c⟩⟩
  · intro i j b1 t1 b2 t2 hi' hj' hbi hbj e
    subst e
    have ei : i ≠ id := fun e => by subst e; exact hbi bi
    have ej : j ≠ id := fun e => by subst e; exact hbj bi
    by_cases e1 : i = h.next
    · by_cases e2 : j = h.next
      · rw [e1, e2]
      · subst e1
        rw [bo e2 ej] at hbj
        exact absurd (new hi').1 (hne (old hj' e2) hbj ej)
    · rw [bo e1 ei] at hbi
      by_cases e2 : j = h.next
      · subst e2
        exact absurd (new hj').1 (hne (old hi' e1) hbi ei)
      · rw [bo e2 ej] at hbj
        exact r.inj (old hi' e1) (old hj' e2) hbi hbj rfl
  · intro j b' t' hj
    rw [size_setCells]
    by_cases e : j = h.next
    · subst e
      rw [(new hj).1]
      exact r.lt hi
    · exact r.lt (old hj e)
  · intro j hj
    have hj' : h.next + 1 ≤ j := hj
    rw [bo (by omega) (by omega)]
    exact r.wf j (by omega)
  · intro j hj
    exact Rho.add_ne _ (by have hj' : j < h.next ∨ h.next + 1 ≤ j := hj; omega)
  · intro j hj hr
    exact bo (by omega) (fun e => by subst e; rw [hi] at hr; cases hr)
  · rintro b' _ ⟨j, t', hj, hl'⟩
    by_cases e : j = h.next
    · subst e
      rw [(new hj).1]
      exact ⟨id, t, hi, by rw [hb]; simp⟩
    · by_cases e2 : j = id
      · subst e2; exact absurd bi hl'
      · exact ⟨j, t', old hj e, by rwa [bo e e2] at hl'⟩
  · rintro b' _ ⟨j, t', x, hj, hx, hn⟩
    by_cases e : j = h.next
    · subst e
      rw [(new hj).1]
      exact ⟨id, t, _, hi, hb, by simp⟩
    · by_cases e2 : j = id
      · subst e2; rw [bi] at hx; cases hx
      · exact ⟨j, t', x, old hj e, by rwa [bo e e2] at hx, hn⟩
  · intro b' hb' hn
    exact heap_setCells_ne (fun e => hn ⟨id, t, _, by rw [e]; exact hi, hb, by simp⟩) _ _ _
  · rw [size_setCells]; exact Nat.le_refl _

/-- a map written -/
theorem Rel.setMap (r : Rel lk ρ h w) {id b t : Nat} {es es' : List (AV × AV × Nat)} {cl cl' : Nat} {xs : Array MapEntry} (hi : ρ id = some (b, t)) (hb : h.blk id = some (.map es cl)) (hv : F2 (ME lk ρ) es' xs.toList) :
    Rel lk ρ (h.set id (some (.map es' cl'))) { w with heap := w.heap.setIfInBounds b (.map xs cl') } ∧ Stp ρ h w ρ (h.set id (some (.map es' cl'))) { w with heap := w.heap.setIfInBounds b (.map xs cl') } := by
  have hlt := r.lt hi
  have hne : ∀ {j b' t'}, ρ j = some (b', t') → h.blk j ≠ none → j ≠ id → b' ≠ b := fun hj hl hji e => hji (r.inj hj hi hl (by rw [hb]; simp) e)
  have same : ({ w with heap := w.heap.setIfInBounds b (.map xs cl') } : World).heap[b]? = some (.map xs cl') := by simp [hlt]
  have other : ∀ {b'}, b' ≠ b → ({ w with heap := w.heap.setIfInBounds b (.map xs cl') } : World).heap[b']? = w.heap[b']? := fun e => Array.getElem?_setIfInBounds_ne (Ne.symm e)
  have live : ∀ {k}, (h.set id (some (.map es' cl'))).blk k ≠ none → h.blk k ≠ none := fun {k} hk => by
    by_cases e : k = id
    · subst e; rw [hb]; simp
    · rwa [blk_set_ne e] at hk
  refine ⟨⟨?_, ?_, ?_, ?_, ?_⟩, ⟨fun _ _ => rfl, Nat.le_refl _, ?_, ?_, ?_, ?_, ?_, rfl, rfl, rfl⟩⟩
  · intro j b' t' cs' ro hj hbj
    have e : j ≠ id := fun e => by subst e; rw [blk_set_same] at hbj; cases hbj
    rw [blk_set_ne e] at hbj
    obtain ⟨cur', ty', fz', g1, g2, g3, g4, g5⟩ := r.row hj hbj
    exact ⟨cur', ty', fz', by rw [other (hne hj (by rw [hbj]; simp) e)]; exact g1, g2, g3, g4, g5⟩
  · intro j b' t' es2 cl2 hj hbj
    by_cases e : j = id
    · subst e
      rw [hi] at hj
      cases hj
      rw [blk_set_same] at hbj
      cases hbj
      exact ⟨xs, same, hv⟩
    · rw [blk_set_ne e] at hbj
      obtain ⟨es', g1, g2⟩ := r.map hj hbj
      exact ⟨es', by rw [other (hne hj (by rw [hbj]; simp) e)]; exact g1, g2⟩
  · intro i j bi ti bj tj hi' hj' hbi hbj e
    exact r.inj hi' hj' (live hbi) (live hbj) e
  · intro j b' t' hj
    simpa using r.lt hj
  · intro j hj
    rw [blk_set_ne (fun e => by subst e; have := r.wf j hj; rw [hb] at this; cases this)]
    exact r.wf j hj
  · intro j hj hr
    exact blk_set_ne (fun e => by subst e; rw [hi] at hr; cases hr)
  · rintro b' _ ⟨j, t', hj, hl⟩
    exact ⟨j, t', hj, live hl⟩
  · rintro b' _ ⟨j, t', x, hj, hx, hn⟩
    by_cases e : j = id
    · subst e; exact ⟨j, t', _, hj, hb, by simp⟩
    · exact ⟨j, t', x, hj, by rwa [blk_set_ne e] at hx, hn⟩
  · intro b' _ hn
    exact other (fun e => hn ⟨id, t, _, by rw [e]; exact hi, hb, by simp⟩)
  · simp
end
end Go.Proofs.Ytadbipeachcekaa.Ab
/- The operations: a table-driven look that an abstract operation is the model's, and that it then does what the model's does. Part one. -/
namespace Go.Proofs.Ytadbipeachcekaa.Ab
open Go
set_option linter.unusedVariables false

/-! ### constants and operands -/
def chkV : Value → AV → Bool
  | .bool a, .b b => a == b
  | .int k n, .i k' n' => decide (k = k') && decide (n = n')
  | .string s, .s l => decide (s.data.toList = l)
  | .pointer none, .nilp => true
  | .slice none 0 0, .nils => true
  | .map none, .nilm => true
  | .nilFunc, .nilf => true
  | _, _ => false
theorem chkV_sound {lk : Lk} {ρ : Rho} {x : Value} {v : AV} (h : chkV x v = true) : VC lk ρ v x := by
  unfold chkV at h
  split at h
  · have := beq_iff_eq.1 h; subst this; exact .b _
  · simp only [Bool.and_eq_true, decide_eq_true_eq] at h
    obtain ⟨rfl, rfl⟩ := h
    exact .i _ _
  · exact .s _ _ (of_decide_eq_true h)
  · exact .nilp
  · exact .nils
  · exact .nilm
  · exact .nilf
  · cases h
def all2 {α β : Type} (f : α → β → Bool) : List α → List β → Bool
  | [], [] => true
  | x :: xs, y :: ys => f x y && all2 f xs ys
  | _, _ => false
theorem all2_sound {α β : Type} {f : α → β → Bool} {R : β → α → Prop} (hf : ∀ x y, f x y = true → R y x) : ∀ {xs : List α} {ys : List β}, all2 f xs ys = true → F2 R ys xs
  | [], [], _ => trivial
  | x :: xs, y :: ys, h => by
    simp only [all2, Bool.and_eq_true] at h
    exact ⟨hf _ _ h.1, all2_sound hf h.2⟩
  | [], _ :: _, h => by cases h
  | _ :: _, [], h => by cases h
/-- a zero value: its cells; as a value -/
def chkZ (x : Value) (z : List AV) : Bool := all2 chkV x.cells.toList z
def chkZV : Value → AV → Bool
  | .agg cs, .agg z => all2 chkV cs.toList z
  | x, v => chkV x v
theorem chkZV_sound {lk : Lk} {ρ : Rho} {x : Value} {v : AV} (h : chkZV x v = true) : VR lk ρ v x := by
  unfold chkZV at h
  split at h
  · exact .agg (all2_sound (fun _ _ => chkV_sound) h)
  · exact .cell (chkV_sound h)

structure ER (lk : Lk) (ρ : Rho) (nt : Nat) (e : Env) (a : Act) : Prop where
  get : ∀ n, VE lk ρ (eget e n) (a.tmps.getD n undef)
  size : a.tmps.size = nt
  defers : a.defers = []
theorem ER.mono {lk : Lk} {ρ ρ' : Rho} {nt : Nat} {e : Env} {a : Act} (h : ρ.le ρ') (r : ER lk ρ nt e a) : ER lk ρ' nt e a := ⟨fun n => (r.get n).mono h, r.size, r.defers⟩

def chkX (lk : Lk) : Operand → AX → Bool
  | .tmp n, .t m => n == m
  | .const x, .c v => chkV x v
  | .func f, .c (.fn g [] []) => decide (lk g = some f)
  | _, _ => false
theorem chkX_sound {lk : Lk} {ρ : Rho} {nt : Nat} {e : Env} {a : Act} {o : Operand} {x : AX} (h : chkX lk o x = true) (r : ER lk ρ nt e a) : VE lk ρ (ev e x) (a.eval o) := by
  unfold chkX at h
  split at h
  · have := beq_iff_eq.1 h
    subst this
    exact r.get _
  · exact (chkV_sound h).e
  · exact (VC.fn (first := []) (cap := []) (first' := #[]) (cap' := #[]) (of_decide_eq_true h) trivial trivial).e
  · cases h
def chkO (lk : Lk) : Option Operand → Option AX → Bool
  | none, none => true
  | some o, some x => chkX lk o x
  | _, _ => false

/-! ### types -/
def aggT (P : Program) (t : TypeId) : Option Bool :=
  match P.underlying t with
  | some (.struct _) | some (.array _ _) => some true
  | some _ => some false
  | none => none
def szT (P : Program) (t : TypeId) : Option Nat := (P.info? t).map (·.size)
def zT (P : Program) (t : TypeId) : Option Value := (P.info? t).bind (·.zero)
def byT (P : Program) (t : TypeId) : Option Nat := (P.info? t).map (·.bytes)

section
variable {P : Program} {w : World}
theorem run_szT {t : TypeId} {n : Nat} (h : szT P t = some n) : (sizeOf t).run P w = .ok n w := by
  unfold szT at h
  cases hi : P.info? t with
  | none => simp [hi] at h
  | some i => simp [hi] at h; subst h; simp [sizeOf, typeInfo, hi]
theorem run_zT {t : TypeId} {z : Value} (h : zT P t = some z) : (zeroValue t).run P w = .ok z w := by
  unfold zT at h
  cases hi : P.info? t with
  | none => simp [hi] at h
  | some i => simp [hi] at h; simp [zeroValue, typeInfo, hi, h]
theorem run_aggT {t : TypeId} {b : Bool} (h : aggT P t = some b) : (isAgg t).run P w = .ok b w := by
  unfold aggT at h
  unfold isAgg
  cases hu : P.underlying t with
  | none => simp [hu] at h
  | some d => simp only [Sem.run_bind, run_underlying hu]; cases d <;> simp_all
end

/-! ### what an operation leaves -/
def OpS (lk : Lk) (ρ : Rho) (h : AH) (w : World) (r : Result Next) (v : AV) (h' : AH) : Prop :=
  ∃ x w' ρ', (r = .ok (.value x) w' ∨ (r = .ok .skip w' ∧ x = undef)) ∧ VE lk ρ' v x ∧ Rel lk ρ' h' w' ∧ Stp ρ h w ρ' h' w'
section
variable {P : Program} {lk : Lk} {ρ : Rho} {h : AH} {w : World}
theorem OpS.pur (r : Rel lk ρ h w) {s : Sem Value} {x : Value} {v : AV} (hs : s.run P w = .ok x w) (hv : VE lk ρ v x) : OpS lk ρ h w ((do pure (Next.value (← s)) : Sem Next).run P w) v h :=
  ⟨x, w, ρ, .inl (by simp [hs]), hv, r, .refl _ _ _⟩
theorem OpS.val {h' : AH} {s : Sem Value} {x : Value} {w' : World} {ρ' : Rho} {v : AV} (hs : s.run P w = .ok x w') (hv : VE lk ρ' v x) (r : Rel lk ρ' h' w' ∧ Stp ρ h w ρ' h' w') : OpS lk ρ h w ((do pure (Next.value (← s)) : Sem Next).run P w) v h' :=
  ⟨x, w', ρ', .inl (by simp [hs]), hv, r.1, r.2⟩
theorem OpS.unit {h' : AH} {s : Sem Unit} {w' : World} {ρ' : Rho} (hs : s.run P w = .ok () w') (r : Rel lk ρ' h' w' ∧ Stp ρ h w ρ' h' w') : OpS lk ρ h w ((do s; pure Next.skip : Sem Next).run P w) (.tup []) h' :=
  ⟨undef, w', ρ', .inr ⟨by simp [hs], rfl⟩, .tup trivial, r.1, r.2⟩
theorem pureh_some {h h' : AH} {o : Option AV} {v : AV} (e : pureh h o = some (v, h')) : o = some v ∧ h' = h := by
  cases o with
  | none => simp [pureh] at e
  | some x => simp [pureh] at e; exact ⟨by rw [e.1], e.2.symm⟩

/-! ### numbers, texts -/
theorem run_intBits (op : BinOp) (k : IntKind) (x y : Int) {v : AV} (ho : op = .and ∨ op = .or ∨ op = .xor ∨ op = .andNot) (hv : ibin op k x y = some v) :
    ∃ z, (Op.intBits op k x y).run P w = .ok (.int k z) w ∧ v = .i k z := by
  rcases ho with rfl | rfl | rfl | rfl <;> simp only [ibin, bitw, Option.some.injEq] at hv <;> subst hv <;> exact ⟨_, rfl, rfl⟩
theorem ibin_sound {op : BinOp} {t : TypeId} {x y : Operand} {k : IntKind} {a b : Int} {v : AV} (h1 : op ≠ .shl) (h2 : op ≠ .shr) (hv : ibin op k a b = some v) :
    ∃ z, (do eqGuard op t x y (.int k a) (.int k b); binOp op t (.int k a) (.int k b)).run P w = .ok z w ∧ VE lk ρ v z := by
  rw [eqGuard_at_int]
  simp only [pure_bind]
  cases op with
  | shl => exact absurd rfl h1
  | shr => exact absurd rfl h2
  | add => simp only [ibin, Option.some.injEq] at hv; subst hv; exact ⟨_, by simp [binOp_add, Op.intArith], (VC.i _ _).e⟩
  | sub => simp only [ibin, Option.some.injEq] at hv; subst hv; exact ⟨_, by simp [binOp_sub, Op.intArith], (VC.i _ _).e⟩
  | mul => simp only [ibin, Option.some.injEq] at hv; subst hv; exact ⟨_, by simp [binOp_mul, Op.intArith], (VC.i _ _).e⟩
  | quo =>
    simp only [ibin] at hv
    split at hv
    · cases hv
    · rename_i hb
      cases hv; exact ⟨_, by simp [binOp_quo, Op.intDiv, hb], (VC.i _ _).e⟩
  | rem =>
    simp only [ibin] at hv
    split at hv
    · cases hv
    · rename_i hb
      cases hv; exact ⟨_, by simp [binOp_rem, Op.intDiv, hb], (VC.i _ _).e⟩
  | and => obtain ⟨z, h3, rfl⟩ := run_intBits (P := P) (w := w) .and k a b (by simp) hv; exact ⟨_, by rw [binOp_and]; exact h3, (VC.i _ _).e⟩
  | or => obtain ⟨z, h3, rfl⟩ := run_intBits (P := P) (w := w) .or k a b (by simp) hv; exact ⟨_, by rw [binOp_or]; exact h3, (VC.i _ _).e⟩
  | xor => obtain ⟨z, h3, rfl⟩ := run_intBits (P := P) (w := w) .xor k a b (by simp) hv; exact ⟨_, by rw [binOp_xor]; exact h3, (VC.i _ _).e⟩
  | andNot => obtain ⟨z, h3, rfl⟩ := run_intBits (P := P) (w := w) .andNot k a b (by simp) hv; exact ⟨_, by rw [binOp_andNot]; exact h3, (VC.i _ _).e⟩
  | eql =>
    simp only [ibin, Option.some.injEq] at hv; subst hv
    exact ⟨.bool (a == b), by simp [binOp_eql], by rw [show (a == b) = decide (a = b) from rfl]; exact (VC.b _).e⟩
  | neq =>
    simp only [ibin, Option.some.injEq] at hv; subst hv
    exact ⟨.bool (a != b), by simp [binOp_neq], by rw [show (a != b) = !decide (a = b) from rfl]; exact (VC.b _).e⟩
  | lss => simp only [ibin, Option.some.injEq] at hv; subst hv; exact ⟨_, by simp only [binOp_lss]; rfl, (VC.b _).e⟩
  | leq => simp only [ibin, Option.some.injEq] at hv; subst hv; exact ⟨_, by simp only [binOp_leq]; rfl, (VC.b _).e⟩
  | gtr => simp only [ibin, Option.some.injEq] at hv; subst hv; exact ⟨_, by simp only [binOp_gtr]; rfl, (VC.b _).e⟩
  | geq => simp only [ibin, Option.some.injEq] at hv; subst hv; exact ⟨_, by simp only [binOp_geq]; rfl, (VC.b _).e⟩
theorem ishift_sound {op : BinOp} {t : TypeId} {x y : Operand} {k k' : IntKind} {a b : Int} {v : AV} (ho : op = .shl ∨ op = .shr) (hv : ishift op k a b = some v) :
    ∃ z, (do eqGuard op t x y (.int k a) (.int k' b); binOp op t (.int k a) (.int k' b)).run P w = .ok z w ∧ VE lk ρ v z := by
  rw [eqGuard_at_int]
  simp only [pure_bind]
  unfold ishift at hv
  split at hv
  · cases hv
  · rename_i hb
    rcases ho with rfl | rfl
    · simp only [Option.some.injEq] at hv; subst hv; exact ⟨_, by simp only [binOp_shl, Op.shift, if_neg hb]; rfl, (VC.i _ _).e⟩
    · simp only [Option.some.injEq] at hv; subst hv; exact ⟨_, by simp only [binOp_shr, Op.shift, if_neg hb]; rfl, (VC.i _ _).e⟩
theorem bytesLess_eq : ∀ (x y : List UInt8), Op.bytesLess x y = bytesLess x y
  | [], [] => rfl
  | _ :: _, [] => rfl
  | [], _ :: _ => rfl
  | a :: x, b :: y => by simp only [Op.bytesLess, bytesLess, bytesLess_eq x y]
theorem beqd (a b : List UInt8) : (a == b) = decide (a = b) := by by_cases h : a = b <;> simp [h]
theorem sbin_sound {op : BinOp} {t : TypeId} {x y : Operand} {a b : ByteArray} {v : AV} (hv : sbin op a.data.toList b.data.toList = some v) :
    ∃ z, (do eqGuard op t x y (.string a) (.string b); binOp op t (.string a) (.string b)).run P w = .ok z w ∧ VE lk ρ v z := by
  rw [eqGuard_at_string]
  simp only [pure_bind]
  have ha : a.toList = a.data.toList := ByteArray.toList_eq a
  have hb : b.toList = b.data.toList := ByteArray.toList_eq b
  have bd : ∀ c : Bool, VE lk ρ (.b c) (.bool c) := fun c => (VC.b c).e
  cases op with
  | add =>
    simp only [sbin] at hv
    split at hv
    · rename_i hr
      cases hv
      refine ⟨.string (a ++ b), ?_, (VC.s _ _ (by simp [ByteArray.data_append])).e⟩
      have hr' : a.size + b.size ≤ 9223372036854775807 := by
        simp only [room, Array.length_toList] at hr
        have e1 : a.size = a.data.size := rfl
        have e2 : b.size = b.data.size := rfl
        omega
      simp only [binOp_string_add]
      exact run_string_add_sum w a b hr'
    · cases hv
  | eql => simp only [sbin, Option.some.injEq] at hv; subst hv; exact ⟨_, by simp only [binOp_string_eql, ha, hb, beqd]; rfl, bd _⟩
  | neq => simp only [sbin, Option.some.injEq] at hv; subst hv; exact ⟨_, by simp only [binOp_string_neq, ha, hb, beqd]; rfl, bd _⟩
  | lss => simp only [sbin, Option.some.injEq] at hv; subst hv; exact ⟨.bool (Op.bytesLess a.toList b.toList), by simp [binOp, Op.stringOp], by rw [ha, hb, bytesLess_eq]; (try rw [beqd]); exact bd _⟩
  | leq => simp only [sbin, Option.some.injEq] at hv; subst hv; exact ⟨.bool (Op.bytesLess a.toList b.toList || a.toList == b.toList), by simp [binOp, Op.stringOp], by rw [ha, hb, bytesLess_eq]; (try rw [beqd]); exact bd _⟩
  | gtr => simp only [sbin, Option.some.injEq] at hv; subst hv; exact ⟨.bool (!(Op.bytesLess a.toList b.toList || a.toList == b.toList)), by simp [binOp, Op.stringOp], by rw [ha, hb, bytesLess_eq]; (try rw [beqd]); exact bd _⟩
  | geq => simp only [sbin, Option.some.injEq] at hv; subst hv; exact ⟨.bool (!Op.bytesLess a.toList b.toList), by simp [binOp, Op.stringOp], by rw [ha, hb, bytesLess_eq]; (try rw [beqd]); exact bd _⟩
  | _ => simp [sbin] at hv
theorem abin_sound {op : BinOp} {t : TypeId} {x y : Operand} {u v : AV} {a b : Value} {r : AV} (hu : VE lk ρ u a) (hv : VE lk ρ v b) (hr : abin op u v = some r) :
    ∃ z, (do eqGuard op t x y a b; binOp op t a b).run P w = .ok z w ∧ VE lk ρ r z := by
  unfold abin at hr
  split at hr
  · obtain rfl := hu.i; obtain rfl := hv.i; exact ishift_sound (.inl rfl) hr
  · obtain rfl := hu.i; obtain rfl := hv.i; exact ishift_sound (.inr rfl) hr
  · rename_i h1 h2
    obtain rfl := hu.i; obtain rfl := hv.i
    split at hr
    · rename_i e
      subst e
      exact ibin_sound (fun e => h1 e) (fun e => h2 e) hr
    · cases hr
  · obtain ⟨y1, rfl, rfl⟩ := hu.s
    obtain ⟨y2, rfl, rfl⟩ := hv.s
    exact sbin_sound hr
  · cases hr
end
end Go.Proofs.Ytadbipeachcekaa.Ab
/- The operations, part two: comparisons. -/
namespace Go.Proofs.Ytadbipeachcekaa.Ab
open Go
set_option linter.unusedVariables false
section
variable {P : Program} {lk : Lk} {ρ : Rho} {h : AH} {w : World}

/-! ### comparisons -/
def skT (P : Program) (t : TypeId) (k : SK) : Bool :=
  match P.underlying t, k with
  | some .bool, .bo | some (.int _), .it | some .string, .st => true
  | _, _ => false
def flatFields (P : Program) : List Field → List SK → Nat → Bool
  | [], [], _ => true
  | f :: fs, k :: ks, o => (f.name != "_") && decide (f.offset = o) && skT P f.type k && flatFields P fs ks (o + 1)
  | _, _, _ => false
def eqK (P : Program) (t : TypeId) : EK → Bool
  | .bo => match P.underlying t with | some .bool => true | _ => false
  | .pt => match P.underlying t with | some (.pointer _) => true | _ => false
  | .sl => match P.underlying t with | some (.slice _) => true | _ => false
  | .mp => match P.underlying t with | some (.map _ _) => true | _ => false
  | .fn => match P.underlying t with | some (.func _ _ _) => true | _ => false
  | .ag ks =>
    !(P.eqGuardType P.depth t) &&
    match P.underlying t with
    | some (.struct fs) => !(P.stoodInHeld t) && flatFields P fs.toList ks 0
    | some (.array n e) => decide (ks.length = n) && ks.all (skT P e) && decide (P.cellsOf e = 1) && (P.info? e).isSome
    | _ => false

theorem run_part_scalar {t : TypeId} {k : SK} {cs : Array Value} {o : Nat} {x : Value} (ht : skT P t k = true) (hx : cs[o]? = some x) : (part t cs o).run P w = .ok x w := by
  have ha : aggT P t = some false := by
    unfold skT at ht
    unfold aggT
    split at ht <;> simp_all
  simp [part, run_aggT ha, hx]
theorem sceq_sound {d : Nat} {t : TypeId} {k : SK} {u v : AV} {a b : Value} {r : Bool} (ht : skT P t k = true) (hu : VC lk ρ u a) (hv : VC lk ρ v b)
    (hr : sceq k u v = some r) : (Op.equalIn (d + 1) t a b).run P w = .ok r w := by
  unfold skT at ht
  unfold sceq at hr
  split at hr
  · cases hu; cases hv
    cases hd : P.underlying t with
    | none => simp [hd] at ht
    | some x => cases x <;> simp [hd] at ht; cases hr; exact run_equalIn_bool w d t _ _ hd
  · split at hr
    · rename_i e
      subst e
      cases hu; cases hv
      cases hd : P.underlying t with
      | none => simp [hd] at ht
      | some x => cases x <;> simp [hd] at ht; cases hr; exact run_equalIn_int w d t _ _ _ _ hd
    · cases hr
  · obtain ⟨y1, rfl, rfl⟩ := hu.e.s
    obtain ⟨y2, rfl, rfl⟩ := hv.e.s
    cases hd : P.underlying t with
    | none => simp [hd] at ht
    | some x => cases x <;> simp [hd] at ht; cases hr; rw [run_equalIn_string w d t _ _ hd, ByteArray.toList_eq, ByteArray.toList_eq, beqd]
  · cases hr
theorem F2.head {α β : Type} {R : α → β → Prop} {x : α} {xs : List α} {ys : List β} (h : F2 R (x :: xs) ys) : ∃ y ys', ys = y :: ys' ∧ R x y ∧ F2 R xs ys' := by
  cases ys with | nil => exact h.elim | cons y ys => exact ⟨y, ys, rfl, h.1, h.2⟩
theorem eqFields_sound {d : Nat} {xs ys : Array Value} : ∀ {ks : List SK} {fs : List Field} {o : Nat} {us vs : List AV} {r : Bool}, flatFields P fs ks o = true →
    F2 (VC lk ρ) us (xs.toList.drop o) → F2 (VC lk ρ) vs (ys.toList.drop o) → aeqs ks us vs = some r → (Op.eqFields (d + 1) xs ys fs).run P w = .ok r w
  | [], [], o, us, vs, r, hf, hu, hv, hr => by
    cases us with
    | nil => cases vs with | nil => simp [aeqs] at hr; subst hr; rfl | cons => simp [aeqs] at hr
    | cons => simp [aeqs] at hr
  | k :: ks, f :: fs, o, us, vs, r, hf, hu, hv, hr => by
    cases us with
    | nil => simp [aeqs] at hr
    | cons u us =>
      cases vs with
      | nil => simp [aeqs] at hr
      | cons v vs =>
        simp only [flatFields, Bool.and_eq_true, decide_eq_true_eq, bne_iff_ne, ne_eq] at hf
        obtain ⟨⟨⟨hn, ho⟩, hk⟩, hf⟩ := hf
        obtain ⟨x, xs', hx, hux, hus⟩ := hu.head
        obtain ⟨y, ys', hy, hvy, hvs⟩ := hv.head
        have hx0 : xs[o]? = some x := by
          have := congrArg (fun l => l[0]?) hx
          simpa [List.getElem?_drop] using this
        have hy0 : ys[o]? = some y := by
          have := congrArg (fun l => l[0]?) hy
          simpa [List.getElem?_drop] using this
        have hx1 : xs.toList.drop (o + 1) = xs' := by rw [← List.drop_drop, hx]; rfl
        have hy1 : ys.toList.drop (o + 1) = ys' := by rw [← List.drop_drop, hy]; rfl
        simp only [Op.eqFields, ne_eq, hn, not_false_eq_true, if_true, Sem.run_bind, ho, run_part_scalar hk hx0, run_part_scalar hk hy0, Result.andThen_ok]
        simp only [aeqs] at hr
        cases hs : sceq k u v with
        | none => simp [hs] at hr
        | some q =>
          rw [sceq_sound hk hux hvy hs]
          cases q with
          | false => simp [hs] at hr; subst hr; simp
          | true =>
            simp only [hs] at hr
            simp only [Result.andThen_ok, Bool.not_true, Bool.false_eq_true, if_false]
            exact eqFields_sound hf (by rw [hx1]; exact hus) (by rw [hy1]; exact hvs) hr
  | [], _ :: _, _, _, _, _, hf, _, _, _ => by simp [flatFields] at hf
  | _ :: _, [], _, _, _, _, hf, _, _, _ => by simp [flatFields] at hf
theorem eqItems_sound {d : Nat} {e : TypeId} {xs ys : Array Value} : ∀ {ks : List SK} {o : Nat} {us vs : List AV} {r : Bool}, ks.all (skT P e) = true →
    F2 (VC lk ρ) us (xs.toList.drop o) → F2 (VC lk ρ) vs (ys.toList.drop o) → aeqs ks us vs = some r → (Op.eqItems (d + 1) e 1 xs ys (List.range' o ks.length)).run P w = .ok r w
  | [], o, us, vs, r, hf, hu, hv, hr => by
    cases us with
    | nil => cases vs with | nil => simp [aeqs] at hr; subst hr; rfl | cons => simp [aeqs] at hr
    | cons => simp [aeqs] at hr
  | k :: ks, o, us, vs, r, hf, hu, hv, hr => by
    cases us with
    | nil => simp [aeqs] at hr
    | cons u us =>
      cases vs with
      | nil => simp [aeqs] at hr
      | cons v vs =>
        simp only [List.all_cons, Bool.and_eq_true] at hf
        obtain ⟨hk, hf⟩ := hf
        obtain ⟨x, xs', hx, hux, hus⟩ := hu.head
        obtain ⟨y, ys', hy, hvy, hvs⟩ := hv.head
        have hx0 : xs[o * 1]? = some x := by
          have := congrArg (fun l => l[0]?) hx
          simpa [List.getElem?_drop] using this
        have hy0 : ys[o * 1]? = some y := by
          have := congrArg (fun l => l[0]?) hy
          simpa [List.getElem?_drop] using this
        have hx1 : xs.toList.drop (o + 1) = xs' := by rw [← List.drop_drop, hx]; rfl
        have hy1 : ys.toList.drop (o + 1) = ys' := by rw [← List.drop_drop, hy]; rfl
        simp only [List.length_cons, List.range'_succ, Op.eqItems, Sem.run_bind, run_part_scalar hk hx0, run_part_scalar hk hy0, Result.andThen_ok]
        simp only [aeqs] at hr
        cases hs : sceq k u v with
        | none => simp [hs] at hr
        | some q =>
          rw [sceq_sound hk hux hvy hs]
          cases q with
          | false => simp [hs] at hr; subst hr; simp
          | true =>
            simp only [hs] at hr
            simp only [Result.andThen_ok, Bool.not_true, Bool.false_eq_true, if_false]
            exact eqItems_sound hf (by rw [hx1]; exact hus) (by rw [hy1]; exact hvs) hr
/-- '==' of structs and arrays -/
theorem aeqs_sound {d : Nat} {t : TypeId} {ks : List SK} {us vs : List AV} {xs ys : Array Value} {r : Bool} (ht : eqK P t (.ag ks) = true) (hu : F2 (VC lk ρ) us xs.toList) (hv : F2 (VC lk ρ) vs ys.toList)
    (hr : aeqs ks us vs = some r) : (Op.equalIn (d + 2) t (.agg xs) (.agg ys)).run P w = .ok r w := by
  simp only [eqK, Bool.and_eq_true] at ht
  obtain ⟨_, ht⟩ := ht
  cases hd : P.underlying t with
  | none => simp [hd] at ht
  | some x =>
    cases x with
    | struct fs =>
      simp only [hd, Bool.and_eq_true, Bool.not_eq_true'] at ht
      have hfs : P.fieldsOf t = fs := by simp [Program.fieldsOf, hd]
      rw [run_equalIn_struct w (d + 1) t xs ys (by rw [hfs]; exact hd) ht.1, hfs]
      exact eqFields_sound ht.2 (by simpa using hu) (by simpa using hv) hr
    | array n e =>
      simp only [hd, Bool.and_eq_true, decide_eq_true_eq] at ht
      obtain ⟨⟨⟨h1, h2⟩, h3⟩, h4⟩ := ht
      obtain ⟨i, hi⟩ := Option.isSome_iff_exists.1 h4
      rw [run_equalIn_array w (d + 1) xs ys hd hi, h3, List.range_eq_range', ← h1]
      exact eqItems_sound h2 (by simpa using hu) (by simpa using hv) hr
    | _ => simp [hd] at ht
theorem eqn_ptr (d : Nat) {t e : TypeId} (hd : P.underlying t = some (.pointer e)) (b : Option Addr) : (Op.equalIn (d + 1) t (.pointer none) (.pointer b)).run P w = .ok b.isNone w := by
  simp only [Op.equalIn, Sem.run_bind, run_underlying hd, Result.andThen_ok]; rfl
theorem eqn_ptr' (d : Nat) {t e : TypeId} (hd : P.underlying t = some (.pointer e)) (a : Addr) : (Op.equalIn (d + 1) t (.pointer (some a)) (.pointer none)).run P w = .ok false w := by
  simp only [Op.equalIn, Sem.run_bind, run_underlying hd, Result.andThen_ok]; rfl
theorem eqn_sl (d : Nat) {t e : TypeId} (hd : P.underlying t = some (.slice e)) (b : Option Addr) (n c n' c' : Nat) : (Op.equalIn (d + 1) t (.slice none n c) (.slice b n' c')).run P w = .ok b.isNone w := by
  simp only [Op.equalIn, Sem.run_bind, run_underlying hd, Result.andThen_ok]; rfl
theorem eqn_sl' (d : Nat) {t e : TypeId} (hd : P.underlying t = some (.slice e)) (a : Addr) (n c n' c' : Nat) : (Op.equalIn (d + 1) t (.slice (some a) n c) (.slice none n' c')).run P w = .ok false w := by
  simp only [Op.equalIn, Sem.run_bind, run_underlying hd, Result.andThen_ok]; rfl
theorem eqn_mp (d : Nat) {t k e : TypeId} (hd : P.underlying t = some (.map k e)) (b : Option Nat) : (Op.equalIn (d + 1) t (.map none) (.map b)).run P w = .ok b.isNone w := by
  simp only [Op.equalIn, Sem.run_bind, run_underlying hd, Result.andThen_ok]; rfl
theorem eqn_mp' (d : Nat) {t k e : TypeId} (hd : P.underlying t = some (.map k e)) (a : Nat) : (Op.equalIn (d + 1) t (.map (some a)) (.map none)).run P w = .ok false w := by
  simp only [Op.equalIn, Sem.run_bind, run_underlying hd, Result.andThen_ok]; rfl
theorem eqn_fn0 (d : Nat) {t : TypeId} {ps rs : Array TypeId} {vr : Bool} (hd : P.underlying t = some (.func ps rs vr)) : (Op.equalIn (d + 1) t .nilFunc .nilFunc).run P w = .ok true w := by
  simp only [Op.equalIn, Sem.run_bind, run_underlying hd, Result.andThen_ok]; rfl
theorem eqn_fn1 (d : Nat) {t : TypeId} {ps rs : Array TypeId} {vr : Bool} (hd : P.underlying t = some (.func ps rs vr)) (f : Fn) (a c : Array Value) : (Op.equalIn (d + 1) t .nilFunc (.func f a c)).run P w = .ok false w := by
  simp only [Op.equalIn, Sem.run_bind, run_underlying hd, Result.andThen_ok]; rfl
theorem eqn_fn2 (d : Nat) {t : TypeId} {ps rs : Array TypeId} {vr : Bool} (hd : P.underlying t = some (.func ps rs vr)) (f : Fn) (a c : Array Value) : (Op.equalIn (d + 1) t (.func f a c) .nilFunc).run P w = .ok false w := by
  simp only [Op.equalIn, Sem.run_bind, run_underlying hd, Result.andThen_ok]; rfl
theorem bop_eq {op : BinOp} {neg : Bool} {t : TypeId} {a b : Value} (ho : op = if neg then .neq else .eql) (h1 : ∀ k n, a ≠ .int k n) (h2 : ∀ k n, a ≠ .float k n) (h3 : ∀ k n m, a ≠ .complex k n m) (h4 : ∀ s, a ≠ .string s) :
    binOp op t a b = (do pure (.bool ((← Op.equal t a b) != neg))) := by
  subst ho
  cases neg <;> simp only [if_true, if_false, Bool.false_eq_true] <;> unfold binOp <;> cases a <;> simp_all
theorem fin_eq {op : BinOp} {neg : Bool} {t : TypeId} {x y : Operand} {a b : Value} {r : Bool} (ho : op = if neg then .neq else .eql) (h0 : (∀ k n, a ≠ .int k n) ∧ (∀ k n, a ≠ .float k n) ∧ (∀ k n m, a ≠ .complex k n m) ∧ (∀ s, a ≠ .string s))
    (h2 : (eqGuard op t x y a b).run P w = .ok () w) (h1 : (Op.equalIn (9999 + 1) t a b).run P w = .ok r w) : (do eqGuard op t x y a b; binOp op t a b).run P w = .ok (.bool (r != neg)) w := by
  rw [Sem.run_bind, h2, Result.andThen_ok, bop_eq ho h0.1 h0.2.1 h0.2.2.1 h0.2.2.2, Sem.run_bind, show Op.equal t = Op.equalIn (9999 + 1) t from rfl, h1]
  rfl
theorem aeq_sound {kd : EK} {neg : Bool} {op : BinOp} {t : TypeId} {x y : Operand} {u v : AV} {a b : Value} {r : Bool} (ho : op = if neg then .neq else .eql) (ht : eqK P t kd = true) (hu : VE lk ρ u a) (hv : VE lk ρ v b)
    (hr : aeq kd u v = some r) : (do eqGuard op t x y a b; binOp op t a b).run P w = .ok (.bool (r != neg)) w := by
  have bo : eqK P t .bo = true → P.underlying t = some .bool := fun h => by
    simp only [eqK] at h
    split at h
    · assumption
    · cases h
  have pt : eqK P t .pt = true → ∃ e, P.underlying t = some (.pointer e) := fun h => by
    simp only [eqK] at h
    split at h
    · exact ⟨_, by assumption⟩
    · cases h
  have sl : eqK P t .sl = true → ∃ e, P.underlying t = some (.slice e) := fun h => by
    simp only [eqK] at h
    split at h
    · exact ⟨_, by assumption⟩
    · cases h
  have mp : eqK P t .mp = true → ∃ k e, P.underlying t = some (.map k e) := fun h => by
    simp only [eqK] at h
    split at h
    · exact ⟨_, _, by assumption⟩
    · cases h
  have fn : eqK P t .fn = true → ∃ a b c, P.underlying t = some (.func a b c) := fun h => by
    simp only [eqK] at h
    split at h
    · exact ⟨_, _, _, by assumption⟩
    · cases h
  unfold aeq at hr
  split at hr
  · obtain rfl := hu.b; obtain rfl := hv.b
    cases hr
    exact fin_eq ho (by simp) (by rw [eqGuard_at_bool]; rfl) (run_equalIn_bool w 9999 t _ _ (bo ht))
  · obtain rfl := hu.nilp; obtain rfl := hv.nilp
    cases hr; obtain ⟨e, hd⟩ := pt ht
    exact fin_eq ho (by simp) (by rw [eqGuard_at_pointer]; rfl) (eqn_ptr 9999 hd _)
  · obtain rfl := hu.nilp; obtain ⟨b, t', _, rfl⟩ := hv.ptr
    cases hr; obtain ⟨e, hd⟩ := pt ht
    exact fin_eq ho (by simp) (by rw [eqGuard_at_pointer]; rfl) (eqn_ptr 9999 hd _)
  · obtain ⟨b, t', _, rfl⟩ := hu.ptr; obtain rfl := hv.nilp
    cases hr; obtain ⟨e, hd⟩ := pt ht
    exact fin_eq ho (by simp) (by rw [eqGuard_at_pointer]; rfl) (eqn_ptr' 9999 hd _)
  · obtain rfl := hu.nils; obtain rfl := hv.nils
    cases hr; obtain ⟨e, hd⟩ := sl ht
    exact fin_eq ho (by simp) (by rw [eqGuard_at_slice]; rfl) (eqn_sl 9999 hd _ _ _ _ _)
  · obtain rfl := hu.nils; obtain ⟨b, t', o, c, _, _, _, _, _, _, rfl⟩ := hv.sl
    cases hr; obtain ⟨e, hd⟩ := sl ht
    exact fin_eq ho (by simp) (by rw [eqGuard_at_slice]; rfl) (eqn_sl 9999 hd _ _ _ _ _)
  · obtain ⟨b, t', o, c, _, _, _, _, _, _, rfl⟩ := hu.sl; obtain rfl := hv.nils
    cases hr; obtain ⟨e, hd⟩ := sl ht
    exact fin_eq ho (by simp) (by rw [eqGuard_at_slice]; rfl) (eqn_sl' 9999 hd _ _ _ _ _)
  · obtain rfl := hu.nils; obtain ⟨a, rfl⟩ := hv.es
    cases hr; obtain ⟨e, hd⟩ := sl ht
    exact fin_eq ho (by simp) (by rw [eqGuard_at_slice]; rfl) (eqn_sl 9999 hd _ _ _ _ _)
  · obtain ⟨a, rfl⟩ := hu.es; obtain rfl := hv.nils
    cases hr; obtain ⟨e, hd⟩ := sl ht
    exact fin_eq ho (by simp) (by rw [eqGuard_at_slice]; rfl) (eqn_sl' 9999 hd _ _ _ _ _)
  · obtain rfl := hu.nilm; obtain rfl := hv.nilm
    cases hr; obtain ⟨k, e, hd⟩ := mp ht
    exact fin_eq ho (by simp) (by rw [eqGuard_at_map]; rfl) (eqn_mp 9999 hd _)
  · obtain rfl := hu.nilm; obtain ⟨b, t', _, rfl⟩ := hv.mp
    cases hr; obtain ⟨k, e, hd⟩ := mp ht
    exact fin_eq ho (by simp) (by rw [eqGuard_at_map]; rfl) (eqn_mp 9999 hd _)
  · obtain ⟨b, t', _, rfl⟩ := hu.mp; obtain rfl := hv.nilm
    cases hr; obtain ⟨k, e, hd⟩ := mp ht
    exact fin_eq ho (by simp) (by rw [eqGuard_at_map]; rfl) (eqn_mp' 9999 hd _)
  · obtain rfl := hu.nilf; obtain rfl := hv.nilf
    cases hr; obtain ⟨a, b, c, hd⟩ := fn ht
    exact fin_eq ho (by simp) (by rw [eqGuard_at_nilFunc]; rfl) (eqn_fn0 9999 hd)
  · obtain rfl := hu.nilf; obtain ⟨g, f1, c1, _, _, _, rfl⟩ := hv.fn
    cases hr; obtain ⟨a, b, c, hd⟩ := fn ht
    exact fin_eq ho (by simp) (by rw [eqGuard_at_nilFunc]; rfl) (eqn_fn1 9999 hd _ _ _)
  · obtain ⟨g, f1, c1, _, _, _, rfl⟩ := hu.fn; obtain rfl := hv.nilf
    cases hr; obtain ⟨a, b, c, hd⟩ := fn ht
    exact fin_eq ho (by simp) (by rw [eqGuard_at_func]; rfl) (eqn_fn2 9999 hd _ _ _)
  · obtain ⟨xs, hxs, rfl⟩ := hu.agg; obtain ⟨ys, hys, rfl⟩ := hv.agg
    have hg : P.eqGuardType P.depth t = false := by
      have ht' := ht
      unfold eqK at ht'
      simp only [Bool.and_eq_true, Bool.not_eq_true'] at ht'
      exact ht'.1
    exact fin_eq ho (by simp) (run_eqGuard_agg w op t x y xs ys hg) (aeqs_sound (d := 9998) ht hxs hys hr)
  · cases hr
end
end Go.Proofs.Ytadbipeachcekaa.Ab
/- The operations, part three: conversions, loads, stores, addresses, parts, cuts. -/
namespace Go.Proofs.Ytadbipeachcekaa.Ab
open Go
set_option linter.unusedVariables false
section
variable {P : Program} {lk : Lk} {ρ : Rho} {h : AH} {w : World}

/-! ### loads and stores -/
theorem isUn_iff {v : AV} : v.isUn = true ↔ v = .un := by cases v <;> simp [AV.isUn]
theorem rd_sound (r : Rel lk ρ h w) {id off b t : Nat} {v : AV} (hi : ρ id = some (b, t)) (hv : h.rd id off = some v) : ∃ x, w.cell? ⟨b, off, none⟩ = some x ∧ VC lk ρ v x := by
  unfold AH.rd at hv
  split at hv
  · rename_i cs ro hb
    split at hv
    · rename_i u hu
      split at hv
      · cases hv
      · rename_i hn
        cases hv
        obtain ⟨cur, ty, fz, h1, h2, h3, h4, h5⟩ := r.row hi hb
        obtain ⟨y, h6, h7⟩ := h5 off v hu
        exact ⟨y, by simp [World.cell?, h1, h6], h7.resolve_left fun e => hn (isUn_iff.2 e)⟩
    · cases hv
  · cases hv
theorem row_F2 {cs : List AV} {cur : List Value} (hc : ∀ (j : Nat) (x : AV), cs[j]? = some x → ∃ y, cur[j]? = some y ∧ VU lk ρ x y) {off n : Nat} (hl : off + n ≤ cs.length) (hu : ((cs.drop off).take n).any AV.isUn = false) :
    F2 (VC lk ρ) ((cs.drop off).take n) ((cur.drop off).take n) := by
  have hlt : off + n ≤ cur.length := by
    rcases Nat.eq_zero_or_pos n with h0 | h0
    · subst h0
      rcases Nat.eq_zero_or_pos off with h1 | h1
      · omega
      · obtain ⟨y, hy, _⟩ := hc (off - 1) _ (List.getElem?_eq_getElem (by omega))
        have := (List.getElem?_eq_some_iff.1 hy).1
        omega
    · obtain ⟨y, hy, _⟩ := hc (off + n - 1) _ (List.getElem?_eq_getElem (by omega))
      have := (List.getElem?_eq_some_iff.1 hy).1
      omega
  refine F2.of_get (by simp; omega) fun j x y hx hy => ?_
  have hmem : x ∈ (cs.drop off).take n := List.mem_of_getElem? hx
  have hnu : x ≠ .un := fun e => by
    have := List.any_eq_false.1 hu x hmem
    exact this (isUn_iff.2 e)
  rw [List.getElem?_take] at hx hy
  split at hx
  · rename_i hj
    rw [if_pos hj] at hy
    rw [List.getElem?_drop] at hx hy
    obtain ⟨z, hz, hr⟩ := hc _ _ hx
    rw [hz] at hy
    cases hy
    exact hr.resolve_left hnu
  · cases hx
theorem rdn_sound (r : Rel lk ρ h w) {id off n b t : Nat} {cs : List AV} (hi : ρ id = some (b, t)) (hv : h.rdn id off n = some cs) :
    ∃ xs : List Value, (loadCells ⟨b, off, none⟩ n).run P w = .ok xs.toArray w ∧ F2 (VC lk ρ) cs xs ∧ xs.length = n ∧ off + n ≤ t := by
  unfold AH.rdn at hv
  split at hv
  · rename_i cs' ro hb
    split at hv
    · rename_i hl
      cases hv
      obtain ⟨cur, ty, fz, h1, h2, h3, h4, h5⟩ := r.row hi hb
      have hf := row_F2 (cur := cur.toList) (fun j x hx => by simpa using h5 j x hx) hl.1 hl.2
      refine ⟨_, run_loadRow h1 n (by omega), hf, ?_, by omega⟩
      have := hf.length
      rw [← this]
      simp
      omega
    · cases hv
  · cases hv
def ldK (P : Program) (t : TypeId) (sz : Option Nat) : Bool :=
  match aggT P t, sz with
  | some true, some n => decide (szT P t = some n)
  | some false, none => true
  | _, _ => false
theorem aload_sound (r : Rel lk ρ h w) {t : TypeId} {sz : Option Nat} {u v : AV} {a : Value} {h' : AH} (ht : ldK P t sz = true) (hu : VE lk ρ u a) (hr : aload sz u h = some (v, h')) :
    ∃ x, (Instr.loadAt t a).run P w = .ok x w ∧ VE lk ρ v x ∧ h' = h := by
  unfold aload at hr
  split at hr
  · rename_i id off
    obtain ⟨b, t', hi, rfl⟩ := hu.ptr
    cases hv : h.rd id off with
    | none => simp [hv] at hr
    | some z =>
      simp [hv] at hr
      obtain ⟨rfl, rfl⟩ := hr
      obtain ⟨x, hx, hvx⟩ := rd_sound r hi hv
      refine ⟨x, ?_, hvx.e, rfl⟩
      have ha : aggT P t = some false := by
        unfold ldK at ht
        split at ht <;> simp_all
      simp [Instr.loadAt, Instr.sureAddr, loadVar, run_aggT ha, hx]
  · rename_i id off n
    obtain ⟨b, t', hi, rfl⟩ := hu.ptr
    cases hv : h.rdn id off n with
    | none => simp [hv] at hr
    | some z =>
      simp [hv] at hr
      obtain ⟨rfl, rfl⟩ := hr
      obtain ⟨xs, hx, hvx, _, _⟩ := rdn_sound (P := P) r hi hv
      refine ⟨.agg xs.toArray, ?_, (VR.agg hvx).e, rfl⟩
      have ha : aggT P t = some true ∧ szT P t = some n := by
        unfold ldK at ht
        split at ht <;> simp_all
      simp [Instr.loadAt, Instr.sureAddr, loadVar, run_aggT ha.1, run_szT ha.2, hx]
  · cases hr
theorem wr_sound (r : Rel lk ρ h w) {id off b t : Nat} {vs : List AV} {xs : List Value} {h' : AH} (hi : ρ id = some (b, t)) (hv : h.wr id off vs = some h') (hx : F2 (VC lk ρ) vs xs) :
    (storeCells ⟨b, off, none⟩ xs).run P w = .ok () (w.setCells b off xs) ∧ Rel lk ρ h' (w.setCells b off xs) ∧ Stp ρ h w ρ h' (w.setCells b off xs) := by
  unfold AH.wr at hv
  split at hv
  · rename_i cs hb
    split at hv
    · rename_i hl
      cases hv
      obtain ⟨cur, ty, fz, h1, h2, h3, h4, h5⟩ := r.row hi hb
      have hlen := hx.length
      refine ⟨run_storeRow xs h1 (by omega) (by subst h2; exact (h4 rfl).2) hx.one, r.store hi hb hx⟩
    · cases hv
  · cases hv
theorem astore_sound (r : Rel lk ρ h w) {t : TypeId} {sz : Nat} {u v res : AV} {a x : Value} {h' : AH} (ht : szT P t = some sz) (hu : VE lk ρ u a) (hv : VE lk ρ v x) (hr : astore sz u v h = some (res, h')) :
    ∃ w', (Instr.storeAt t a x).run P w = .ok () w' ∧ res = .tup [] ∧ Rel lk ρ h' w' ∧ Stp ρ h w ρ h' w' := by
  unfold astore at hr
  split at hr
  · rename_i id off cs hc
    obtain ⟨b, t', hi, rfl⟩ := hu.ptr
    obtain ⟨_, hcl⟩ := hv.cl hc
    split at hr
    · rename_i hl
      cases hw : h.wr id off cs with
      | none => simp [hw] at hr
      | some h2 =>
        simp [hw] at hr
        obtain ⟨rfl, rfl⟩ := hr
        obtain ⟨h1, h2, h3⟩ := wr_sound (P := P) r hi hw hcl
        refine ⟨_, ?_, rfl, h2, h3⟩
        have hs : x.cells.size = sz := by have := hcl.length; simp at this; omega
        simp [Instr.storeAt, Instr.sureAddr, storeVar, run_szT ht, hs, h1]
    · cases hr
  · cases hr

/-! ### addresses -/
def faK (P : Program) (t : TypeId) (f off : Nat) : Bool :=
  match P.underlying t with
  | some (.struct fs) =>
    match fs[f]? with
    | some x => decide (x.offset = off) && (match szT P x.type with | some (_ + 1) => true | _ => false)
    | none => false
  | _ => false
theorem fa_sound {t : TypeId} {f off id o : Nat} {a : Value} (ht : faK P t f off = true) (hu : VE lk ρ (.ptr id o) a) :
    ∃ x, (Instr.fieldAt t a f).run P w = .ok x w ∧ VE lk ρ (.ptr id (o + off)) x := by
  obtain ⟨b, t', hi, rfl⟩ := hu.ptr
  unfold faK at ht
  cases hd : P.underlying t with
  | none => simp [hd] at ht
  | some d =>
    cases d with
    | struct fs =>
      simp only [hd] at ht
      cases hf : fs[f]? with
      | none => simp [hf] at ht
      | some x =>
        simp only [hf, Bool.and_eq_true, decide_eq_true_eq] at ht
        obtain ⟨h1, h2⟩ := ht
        cases hs : szT P x.type with
        | none => simp [hs] at h2
        | some n =>
          cases n with
          | zero => simp [hs] at h2
          | succ n =>
            refine ⟨_, ?_, (VC.ptr hi).e⟩
            simp [Instr.fieldAt, run_underlying hd, hf, Instr.sureAddr, fieldPlace, run_szT hs, Addr.add_lit, h1]
    | _ => simp [hd] at ht
def elK (P : Program) (t : TypeId) (esz : Nat) : Bool :=
  match P.underlying t with
  | some (.slice e) => decide (szT P e = some esz)
  | _ => false
def arK (P : Program) (t : TypeId) (n esz : Nat) : Bool :=
  match P.underlying t with
  | some (.array m e) => decide (m = n) && decide (szT P e = some esz)
  | _ => false
theorem elK_spec {t : TypeId} {esz : Nat} (h : elK P t esz = true) : ∃ e, P.underlying t = some (.slice e) ∧ szT P e = some esz := by
  unfold elK at h
  split at h
  · exact ⟨_, by assumption, of_decide_eq_true h⟩
  · cases h
theorem arK_spec {t : TypeId} {n esz : Nat} (h : arK P t n esz = true) : ∃ e, P.underlying t = some (.array n e) ∧ szT P e = some esz := by
  unfold arK at h
  split at h
  · simp only [Bool.and_eq_true, decide_eq_true_eq] at h
    obtain ⟨rfl, h2⟩ := h
    exact ⟨_, by assumption, h2⟩
  · cases h
theorem aidx_sound {t : TypeId} {esz : Nat} {u i v : AV} {a c : Value} (ht : elK P t esz = true) (hu : VE lk ρ u a) (hi : VE lk ρ i c) (hr : aidx esz u i = some v) :
    ∃ x, (Instr.indexAt t a c).run P w = .ok x w ∧ VE lk ρ v x := by
  obtain ⟨e, hd, hs⟩ := elK_spec ht
  unfold aidx at hr
  split at hr
  · split at hr
    · rename_i hb
      cases hr
      obtain rfl := hi.i
      obtain ⟨b, t', o, c', hid, h0, h1, h2, h3, h4, rfl⟩ := hu.sl
      have ho : o = _ := h3.resolve_right (by omega)
      subst ho
      refine ⟨_, ?_, (VC.ptr hid).e⟩
      simp [Instr.indexAt, asIntOf, run_underlying hd, hb, run_szT hs, Addr.add_lit]
    · cases hr
  · cases hr
theorem aidxa_sound {t : TypeId} {n esz : Nat} {u i v : AV} {a c : Value} (ht : arK P t n esz = true) (hu : VE lk ρ u a) (hi : VE lk ρ i c) (hr : aidxa n esz u i = some v) :
    ∃ x, (Instr.indexAt t a c).run P w = .ok x w ∧ VE lk ρ v x := by
  obtain ⟨e, hd, hs⟩ := arK_spec ht
  unfold aidxa at hr
  split at hr
  · split at hr
    · rename_i hb
      cases hr
      obtain rfl := hi.i
      obtain ⟨b, t', hid, rfl⟩ := hu.ptr
      refine ⟨_, ?_, (VC.ptr hid).e⟩
      simp [Instr.indexAt, asIntOf, run_underlying hd, hb, run_szT hs, Addr.add_lit, Instr.sureAddr]
    · cases hr
  · cases hr

/-! ### parts of values -/
theorem F2.getA {α β : Type} {R : α → β → Prop} {xs : List α} {ys : Array β} (h : F2 R xs ys.toList) {j : Nat} {x : α} (hx : xs[j]? = some x) : ∃ y, ys[j]? = some y ∧ R x y := by
  obtain ⟨y, h1, h2⟩ := h.get hx
  exact ⟨y, by simpa using h1, h2⟩
theorem cut_toList (xs : Array Value) (o n : Nat) : (xs.extract o (o + n)).toList = (xs.toList.drop o).take n := by
  simp [Array.toList_extract]
theorem part_sound {t : TypeId} {sz : Option Nat} {off : Nat} {cs : List AV} {xs : Array Value} {v : AV} (ht : ldK P t sz = true) (hf : F2 (VC lk ρ) cs xs.toList) (hr : afield off sz (.agg cs) = some v) :
    ∃ x, (part t xs off).run P w = .ok x w ∧ VE lk ρ v x := by
  unfold afield at hr
  split at hr
  · rename_i heq
    cases heq
    have ha : aggT P t = some false := by
      unfold ldK at ht
      split at ht <;> simp_all
    obtain ⟨x, h1, h2⟩ := hf.getA hr
    exact ⟨x, by simp [part, run_aggT ha, h1], h2.e⟩
  · rename_i heq
    cases heq
    split at hr
    · cases hr
      rename_i n _
      have ha : aggT P t = some true ∧ szT P t = some n := by
        unfold ldK at ht
        split at ht <;> simp_all
      exact ⟨.agg (xs.extract off (off + n)), by simp only [part, Sem.run_bind, run_aggT ha.1, Result.andThen_ok, if_true, run_szT ha.2, Sem.run_pure], (VR.agg (by rw [cut_toList]; exact (hf.drop _).take _)).e⟩
    · cases hr
  · cases hr
def fldK (P : Program) (t : TypeId) (f off : Nat) (sz : Option Nat) : Bool :=
  match P.underlying t with
  | some (.struct fs) =>
    match fs[f]? with
    | some x => decide (x.offset = off) && ldK P x.type sz
    | none => false
  | _ => false
theorem fld_sound {t : TypeId} {f off : Nat} {sz : Option Nat} {u v : AV} {a : Value} (ht : fldK P t f off sz = true) (hu : VE lk ρ u a) (hr : afield off sz u = some v) :
    ∃ x, (Instr.field t a f).run P w = .ok x w ∧ VE lk ρ v x := by
  unfold fldK at ht
  cases hd : P.underlying t with
  | none => simp [hd] at ht
  | some d =>
    cases d with
    | struct fs =>
      simp only [hd] at ht
      cases hf : fs[f]? with
      | none => simp [hf] at ht
      | some x =>
        simp only [hf, Bool.and_eq_true, decide_eq_true_eq] at ht
        obtain ⟨h1, h2⟩ := ht
        cases u with
        | agg cs =>
          obtain ⟨xs, hxs, rfl⟩ := hu.agg
          obtain ⟨z, h3, h4⟩ := part_sound (P := P) (w := w) h2 hxs hr
          exact ⟨z, by simp [Instr.field, run_underlying hd, hf, asAgg, h1, h3], h4⟩
        | _ => cases sz <;> simp [afield] at hr
    | _ => simp [hd] at ht
def ixK (P : Program) (t : TypeId) (n esz : Nat) (ag : Bool) : Bool :=
  match P.underlying t with
  | some (.array m e) => decide (m = n) && decide (szT P e = some esz) && ldK P e (if ag then some esz else none)
  | _ => false
theorem aidxv_sound {t : TypeId} {n esz : Nat} {ag : Bool} {u i v : AV} {a c : Value} (ht : ixK P t n esz ag = true)
    (hu : VE lk ρ u a) (hi : VE lk ρ i c) (hr : aidxv n esz ag u i = some v) : ∃ x, (Instr.index t a c).run P w = .ok x w ∧ VE lk ρ v x := by
  unfold ixK at ht
  cases hd : P.underlying t with
  | none => simp [hd] at ht
  | some d =>
    cases d with
    | array m e =>
      simp only [hd, Bool.and_eq_true, decide_eq_true_eq] at ht
      obtain ⟨⟨rfl, hs⟩, hl⟩ := ht
      unfold aidxv at hr
      split at hr
      · rename_i cs k j
        split at hr
        · rename_i hb
          obtain rfl := hi.i
          obtain ⟨xs, hxs, rfl⟩ := hu.agg
          have hp : afield (j.toNat * esz) (if ag then some esz else none) (.agg cs) = some v := by
            cases ag <;> simpa [afield] using hr
          obtain ⟨z, h3, h4⟩ := part_sound (P := P) (w := w) hl hxs hp
          exact ⟨z, by simp [Instr.index, asIntOf, run_underlying hd, hb, run_szT hs, h3], h4⟩
        · cases hr
      · cases hr
    | _ => simp [hd] at ht
theorem aidxs_sound {t : TypeId} {u i v : AV} {a c : Value} (ht : P.underlying t = some .string) (hu : VE lk ρ u a) (hi : VE lk ρ i c) (hr : aidxs u i = some v) :
    ∃ x, (Instr.index t a c).run P w = .ok x w ∧ VE lk ρ v x := by
  unfold aidxs at hr
  split at hr
  · rename_i l k j
    split at hr
    · rename_i hb
      obtain rfl := hi.i
      obtain ⟨y, hy, rfl⟩ := hu.s
      cases hc : l[j.toNat]? with
      | none => simp [hc] at hr
      | some c =>
        simp [hc] at hr
        subst hr
        have hlt := (List.getElem?_eq_some_iff.1 hc).1
        have hsz : j.toNat < y.size := by rw [← hy] at hlt; simpa using hlt
        have hget : y[j.toNat]? = some c := by
          rw [ByteArray.getElem?_lt' y _ hsz]
          have : y.data.toList[j.toNat]? = some c := by rw [hy]; exact hc
          rw [Array.getElem?_toList, Array.getElem?_eq_getElem (by simpa using hsz)] at this
          exact this
        exact ⟨.int .u8 c.toNat, by simp [Instr.index, asIntOf, run_underlying ht, hb, hget], (VC.i _ _).e⟩
    · cases hr
  · cases hr
theorem aext_sound {n : Nat} {u v : AV} {a : Value} (hu : VE lk ρ u a) (hr : aext n u = some v) : ∃ x, (Instr.extract a n).run P w = .ok x w ∧ VE lk ρ v x := by
  unfold aext at hr
  split at hr
  · obtain ⟨xs, hxs, rfl⟩ := hu.tup'
    obtain ⟨x, h1, h2⟩ := hxs.getA hr
    exact ⟨x, by simp [Instr.extract, h1], .of h2⟩
  · cases hr

/-! ### cuts -/
def VEO (lk : Lk) (ρ : Rho) (v : Option AV) (x : Option Value) : Prop := match v, x with | none, none => True | some v, some x => VE lk ρ v x | _, _ => False
theorem bnd_sound {v : Option AV} {x : Option Value} {d m n M : Nat} {code : BoundsCode} (hM : m ≤ M) (hv : VEO lk ρ v x) (hr : bnd v d m = some n) :
    (x = none ∧ n = d) ∨ ∃ y, x = some y ∧ (Instr.sliceBound y M code).run P w = .ok n w ∧ n ≤ m := by
  unfold bnd at hr
  split at hr
  · cases hr
    cases x with
    | none => exact .inl ⟨rfl, rfl⟩
    | some x => exact hv.elim
  · rename_i k j
    cases x with
    | none => exact hv.elim
    | some x =>
      obtain rfl := VE.i (show VE lk ρ (.i k j) x from hv)
      split at hr
      · rename_i hb
        cases hr
        refine .inr ⟨_, rfl, ?_, by omega⟩
        simp only [Instr.sliceBound, asIntOf, pure_bind]
        rw [if_pos (by omega)]
        rfl
      · cases hr
  · cases hr
/-- the bounds of a cut without a third one -/
theorem bounds_two {isS : Bool} {lo hi : Option AV} {lo' hi' : Option Value} {len cap c hh l : Nat} (hlo : VEO lk ρ lo lo') (hhi : VEO lk ρ hi hi') (hlc : len ≤ cap) (hc : cap ≤ c)
    (h2 : bnd hi len cap = some hh) (h3 : bnd lo 0 hh = some l) : (Instr.sliceBounds isS len c lo' hi' none).run P w = .ok (l, hh, c) w ∧ l ≤ hh ∧ hh ≤ cap := by
  have hl : l ≤ hh := by
    unfold bnd at h3
    split at h3
    · cases h3; omega
    · split at h3
      · cases h3; omega
      · cases h3
    · cases h3
  have hh' : hh ≤ cap := by
    unfold bnd at h2
    split at h2
    · cases h2; omega
    · split at h2
      · cases h2; omega
      · cases h2
    · cases h2
  refine ⟨?_, hl, hh'⟩
  rcases bnd_sound (P := P) (w := w) (M := c) (code := if isS then .sliceAcap else .sliceAlen) hc hhi h2 with ⟨rfl, e1⟩ | ⟨y, rfl, e1, _⟩
  · rcases bnd_sound (P := P) (w := w) (M := hh) (code := .sliceB) (Nat.le_refl _) hlo h3 with ⟨rfl, e2⟩ | ⟨z, rfl, e2, _⟩
    · subst e1 e2; simp [Instr.sliceBounds]
    · subst e1; simp [Instr.sliceBounds, e2]
  · rcases bnd_sound (P := P) (w := w) (M := hh) (code := .sliceB) (Nat.le_refl _) hlo h3 with ⟨rfl, e2⟩ | ⟨z, rfl, e2, _⟩
    · subst e2; simp [Instr.sliceBounds, e1]
    · simp [Instr.sliceBounds, e1, e2]
theorem bounds_three {isS : Bool} {lo hi mx : Option AV} {lo' : Option Value} {hv mv : Value} {len cap c m hh l : Nat} (hlo : VEO lk ρ lo lo') (hhi : VEO lk ρ hi (some hv)) (hmx : VEO lk ρ mx (some mv)) (hc : cap ≤ c)
    (h1 : bnd mx cap cap = some m) (h2 : bnd hi len m = some hh) (h3 : bnd lo 0 hh = some l) : (Instr.sliceBounds isS len c lo' (some hv) (some mv)).run P w = .ok (l, hh, m) w ∧ l ≤ hh ∧ hh ≤ m ∧ m ≤ cap := by
  rcases bnd_sound (P := P) (w := w) (M := c) (code := if isS then .slice3Acap else .slice3Alen) hc hmx h1 with ⟨e, _⟩ | ⟨y, e, e1, g1⟩
  · cases e
  · cases e
    rcases bnd_sound (P := P) (w := w) (M := m) (code := .slice3B) (Nat.le_refl _) hhi h2 with ⟨e, _⟩ | ⟨y, e, e2, g2⟩
    · cases e
    · cases e
      have hl : l ≤ hh := by
        unfold bnd at h3
        split at h3
        · cases h3; omega
        · split at h3
          · cases h3; omega
          · cases h3
        · cases h3
      refine ⟨?_, hl, g2, g1⟩
      rcases bnd_sound (P := P) (w := w) (M := hh) (code := .slice3C) (Nat.le_refl _) hlo h3 with ⟨rfl, e3⟩ | ⟨z, rfl, e3, _⟩
      · subst e3; simp [Instr.sliceBounds, e1, e2]
      · simp [Instr.sliceBounds, e1, e2, e3]
theorem VEO.none_left {x : Option Value} (h : VEO lk ρ none x) : x = none := by cases x with | none => rfl | some => exact h.elim
theorem VEO.some_left {v : AV} {x : Option Value} (h : VEO lk ρ (some v) x) : ∃ y, x = some y ∧ VE lk ρ v y := by cases x with | none => exact h.elim | some y => exact ⟨y, rfl, h⟩
theorem aslice_sound {t : TypeId} {esz : Nat} {u v : AV} {a : Value} {lo hi mx : Option AV} {lo' hi' mx' : Option Value} (ht : elK P t esz = true) (hu : VE lk ρ u a) (hlo : VEO lk ρ lo lo') (hhi : VEO lk ρ hi hi') (hmx : VEO lk ρ mx mx')
    (h3 : mx'.isSome → hi'.isSome) (hr : aslice esz u lo hi mx = some v) : ∃ x, (Instr.sliceAt t a lo' hi' mx').run P w = .ok x w ∧ VE lk ρ v x := by
  obtain ⟨e, hd, hs⟩ := elK_spec ht
  have hsl : ∀ q, (Instr.sliceAt t q lo' hi' mx').run P w = (Instr.slice t q lo' hi' mx').run P w := fun q => by
    simp [Instr.sliceAt, run_underlying hd]
  rw [hsl]
  unfold aslice at hr
  split at hr
  · obtain rfl := hu.nils
    split at hr
    · rename_i m hh l e1 e2 e3
      cases hr
      refine ⟨.slice none 0 0, ?_, VC.nils.e⟩
      cases mx with
      | none =>
        obtain rfl := hmx.none_left
        obtain ⟨g, g1, g2⟩ := bounds_two (P := P) (w := w) (isS := true) (c := 0) hlo hhi (Nat.le_refl 0) (Nat.le_refl 0) e2 (show bnd lo 0 hh = some l by
          have : hh = 0 := by
            unfold bnd at e2
            split at e2
            · cases e2; rfl
            · split at e2
              · cases e2; omega
              · cases e2
            · cases e2
          rw [this]; exact e3)
        have : hh = 0 := by omega
        have : l = 0 := by omega
        subst hh; subst l
        simp [Instr.slice, run_underlying hd, g, run_szT hs]
      | some mv =>
        obtain ⟨my, rfl, hmy⟩ := hmx.some_left
        obtain ⟨hy, rfl⟩ := Option.isSome_iff_exists.1 (h3 rfl)
        have hm0 : m = 0 := by
          unfold bnd at e1
          split at e1
          · cases e1; rfl
          · split at e1
            · cases e1; omega
            · cases e1
          · cases e1
        subst hm0
        have hh0 : hh = 0 := by
          unfold bnd at e2
          split at e2
          · cases e2; rfl
          · split at e2
            · cases e2; omega
            · cases e2
          · cases e2
        subst hh0
        obtain ⟨g, g1, _⟩ := bounds_three (P := P) (w := w) (isS := true) (c := 0) hlo hhi hmx (Nat.le_refl 0) e1 e2 e3
        have : l = 0 := by omega
        subst l
        simp [Instr.slice, run_underlying hd, g, run_szT hs]
    · cases hr
  · obtain ⟨ad, rfl⟩ := hu.es
    split at hr
    · rename_i m hh l e1 e2 e3
      cases hr
      refine ⟨.slice (some ad) 0 0, ?_, (VC.es _).e⟩
      cases mx with
      | none =>
        obtain rfl := hmx.none_left
        obtain ⟨g, g1, g2⟩ := bounds_two (P := P) (w := w) (isS := true) (c := 0) hlo hhi (Nat.le_refl 0) (Nat.le_refl 0) e2 (show bnd lo 0 hh = some l by
          have : hh = 0 := by
            unfold bnd at e2
            split at e2
            · cases e2; rfl
            · split at e2
              · cases e2; omega
              · cases e2
            · cases e2
          rw [this]; exact e3)
        have : hh = 0 := by omega
        have : l = 0 := by omega
        subst hh; subst l
        simp [Instr.slice, run_underlying hd, g, run_szT hs]
      | some mv =>
        obtain ⟨my, rfl, hmy⟩ := hmx.some_left
        obtain ⟨hy, rfl⟩ := Option.isSome_iff_exists.1 (h3 rfl)
        have hm0 : m = 0 := by
          unfold bnd at e1
          split at e1
          · cases e1; rfl
          · split at e1
            · cases e1; omega
            · cases e1
          · cases e1
        subst hm0
        have hh0 : hh = 0 := by
          unfold bnd at e2
          split at e2
          · cases e2; rfl
          · split at e2
            · cases e2; omega
            · cases e2
          · cases e2
        subst hh0
        obtain ⟨g, g1, _⟩ := bounds_three (P := P) (w := w) (isS := true) (c := 0) hlo hhi hmx (Nat.le_refl 0) e1 e2 e3
        have : l = 0 := by omega
        subst l
        simp [Instr.slice, run_underlying hd, g, run_szT hs]
    · cases hr
  · rename_i id off len cap lo2
    obtain ⟨b, t', o, c, hid, g0, g1, g2, g3, g4, rfl⟩ := hu.sl
    split at hr
    · rename_i hlo2
      cases mx with
      | none =>
        obtain rfl := hmx.none_left
        simp only [bnd] at hr
        split at hr
        · cases hr
        · rename_i hh e2
          split at hr
          · cases hr
          · rename_i l e3
            simp only [Option.isSome_none, Bool.false_eq_true, if_false, Option.some.injEq] at hr
            subst hr
            obtain ⟨g, gl, gh⟩ := bounds_two (P := P) (w := w) (isS := true) (c := c) hlo hhi g0 g1 e2 e3
            refine ⟨_, by simp [Instr.slice, run_underlying hd, g, run_szT hs]; rfl, ?_⟩
            by_cases hcl : c = l
            · rw [if_pos hcl]
              exact (VC.sl (o := o) hid (by omega) (by omega) (fun h => by have := g2 h; omega) (.inr (by omega)) (fun h => by have := g4 h; have : c - l = 0 := (by omega); rw [this]; omega)).e
            · rw [if_neg hcl]
              simp only [Addr.add_lit]
              have ho : o = off := g3.resolve_right (by omega)
              subst ho
              refine (VC.sl hid (by omega) (by omega) (fun h => by have := g2 h; omega) (.inl rfl) (fun h => ?_)).e
              have h4 := g4 h
              have : lo2 = esz := hlo2.resolve_left h
              subst this
              rw [Nat.sub_mul]
              have : l * lo2 ≤ c * lo2 := Nat.mul_le_mul_right _ (by omega)
              omega
      | some mv =>
        obtain ⟨my, rfl, hmy⟩ := hmx.some_left
        obtain ⟨hy, rfl⟩ := Option.isSome_iff_exists.1 (h3 rfl)
        split at hr
        · cases hr
        · rename_i m e1
          split at hr
          · cases hr
          · rename_i hh e2
            split at hr
            · cases hr
            · rename_i l e3
              simp only [Option.isSome_some, if_true, Option.some.injEq] at hr
              subst hr
              obtain ⟨g, gl, gh, gm⟩ := bounds_three (P := P) (w := w) (isS := true) (c := c) hlo hhi hmx g1 e1 e2 e3
              refine ⟨_, by simp [Instr.slice, run_underlying hd, g, run_szT hs]; rfl, ?_⟩
              by_cases hcl : m = l
              · rw [if_pos hcl]
                exact (VC.sl (o := o) hid (by omega) (by omega) (fun _ => rfl) (.inr (by omega)) (fun h => absurd rfl h)).e
              · rw [if_neg hcl]
                simp only [Addr.add_lit]
                have ho : o = off := g3.resolve_right (by omega)
                subst ho
                exact (VC.sl hid (by omega) (by omega) (fun _ => rfl) (.inl rfl) (fun h => absurd rfl h)).e
    · cases hr
  · cases hr
theorem aarrcut_sound {t : TypeId} {n esz : Nat} {u v : AV} {a : Value} {lo hi : Option AV} {lo' hi' : Option Value} (ht : arK P t n esz = true) (hu : VE lk ρ u a) (hlo : VEO lk ρ lo lo') (hhi : VEO lk ρ hi hi')
    (hr : aarrcut n esz u lo hi = some v) : ∃ x, (Instr.sliceAt t a lo' hi' none).run P w = .ok x w ∧ VE lk ρ v x := by
  obtain ⟨e, hd, hs⟩ := arK_spec ht
  unfold aarrcut at hr
  split at hr
  · rename_i id off
    obtain ⟨b, t', hid, rfl⟩ := hu.ptr
    split at hr
    · cases hr
    · rename_i hh e2
      split at hr
      · cases hr
      · rename_i l e3
        simp only [Option.some.injEq] at hr
        subst hr
        obtain ⟨g, gl, gh⟩ := bounds_two (P := P) (w := w) (isS := false) (c := n) hlo hhi (Nat.le_refl n) (Nat.le_refl n) e2 e3
        refine ⟨_, by simp [Instr.sliceAt, run_underlying hd, g, run_szT hs, Instr.sureAddr]; rfl, ?_⟩
        by_cases hcl : n = l
        · rw [if_pos hcl]
          exact (VC.sl (o := off) hid (by omega) (by omega) (fun _ => rfl) (.inr (by omega)) (fun h => absurd rfl h)).e
        · rw [if_neg hcl]
          simp only [Addr.add_lit]
          exact (VC.sl hid (by omega) (by omega) (fun _ => rfl) (.inl rfl) (fun h => absurd rfl h)).e
  · cases hr
theorem astrcut_sound {t : TypeId} {u v : AV} {a : Value} {lo hi : Option AV} {lo' hi' : Option Value} (ht : P.underlying t = some .string) (hu : VE lk ρ u a) (hlo : VEO lk ρ lo lo') (hhi : VEO lk ρ hi hi')
    (hr : astrcut u lo hi = some v) : ∃ x, (Instr.sliceAt t a lo' hi' none).run P w = .ok x w ∧ VE lk ρ v x := by
  unfold astrcut at hr
  split at hr
  · rename_i l
    obtain ⟨y, hy, rfl⟩ := hu.s
    have hsz : l.length = y.size := by rw [← hy]; simp
    split at hr
    · cases hr
    · rename_i hh e2
      split at hr
      · cases hr
      · rename_i q e3
        simp only [Option.some.injEq] at hr
        subst hr
        rw [hsz] at e2
        obtain ⟨g, gl, gh⟩ := bounds_two (P := P) (w := w) (isS := false) (c := y.size) hlo hhi (Nat.le_refl _) (Nat.le_refl _) e2 e3
        refine ⟨.string (y.extract q hh), by simp [Instr.sliceAt, Instr.slice, run_underlying ht, g], (VC.s _ _ ?_).e⟩
        rw [← hy]
        have : y = ⟨y.data.toList.toArray⟩ := by cases y; simp
        rw [this, ByteArray.extract_mk]
        simp [List.drop_take]
  · cases hr
end
end Go.Proofs.Ytadbipeachcekaa.Ab
/- The operations, part four: what makes memory; append, copy, clear, make. -/
namespace Go.Proofs.Ytadbipeachcekaa.Ab
open Go
set_option linter.unusedVariables false
section
variable {P : Program} {lk : Lk} {ρ : Rho} {h : AH} {w : World}

/-! ### a slice, or a text, that is shown -/
theorem show_sound (r : Rel lk ρ h w) {esz n : Nat} {u : AV} {cs : List AV} {a : Value} (hu : VE lk ρ u a) (hr : ashow esz u h = some (n, cs)) :
    (Builtin.lenOf a).run P w = .ok n w ∧ ∃ xs : List Value, (Builtin.firstCells esz n a).run P w = .ok xs.toArray w ∧ F2 (VC lk ρ) cs xs ∧ cs.length = n * esz := by
  unfold ashow at hr
  split at hr
  · cases hr
    obtain rfl := hu.nils
    exact ⟨rfl, [], by simp [Builtin.firstCells], trivial, by simp⟩
  · cases hr
    obtain ⟨ad, rfl⟩ := hu.es
    exact ⟨rfl, [], by simp [Builtin.firstCells, loadCells, loadCellsFrom], trivial, by simp⟩
  · rename_i id off m cap lo
    obtain ⟨b, t, o, c, hid, g0, g1, g2, g3, g4, rfl⟩ := hu.sl
    cases hv : h.rdn id off (m * esz) with
    | none => simp [hv] at hr
    | some z =>
      simp [hv] at hr
      obtain ⟨rfl, rfl⟩ := hr
      refine ⟨rfl, ?_⟩
      obtain ⟨xs, h1, h2, h3, _⟩ := rdn_sound (P := P) r hid hv
      have hlen : z.length = m * esz := by rw [h2.length, h3]
      rcases Nat.eq_zero_or_pos (m * esz) with h0 | h0
      · have hz : z = [] := List.eq_nil_of_length_eq_zero (by omega)
        subst hz
        refine ⟨[], ?_, trivial, hlen⟩
        simp [Builtin.firstCells, h0, loadCells, loadCellsFrom]
      · have hm : 0 < m := Nat.pos_of_mul_pos_right h0
        have ho : o = off := g3.resolve_right (by omega)
        subst ho
        exact ⟨xs, by simp [Builtin.firstCells, h1], h2, hlen⟩
  · rename_i l
    split at hr
    · rename_i he
      cases hr
      subst he
      obtain ⟨y, hy, rfl⟩ := hu.s
      have hsz : l.length = y.size := by rw [← hy]; simp
      refine ⟨by simp [Builtin.lenOf, hsz], l.map fun c => .int .u8 c.toNat, ?_, ?_, by simp⟩
      · simp only [Builtin.firstCells, Sem.run_pure]
        congr 1
        rw [← hy]
        have : y = ⟨y.data.toList.toArray⟩ := by cases y; simp
        rw [this, ByteArray.extract_mk]
        simp only [List.drop_zero, Nat.sub_zero]
        rw [List.take_of_length_le (by simp)]
        apply Array.ext'
        simp
      · clear hy hsz hu
        induction l with
        | nil => trivial
        | cons c l ih => exact ⟨VC.i _ _, ih⟩
    · cases hr
  · cases hr

/-! ### append -/
structure AppK (P : Program) (sT xT e : TypeId) (esz bytes : Nat) (i : TypeInfo) (z : Value) : Prop where
  hs : P.underlying sT = some (.slice e)
  hx : (∃ e', P.underlying xT = some (.slice e')) ∨ P.underlying xT = some .string
  hi : P.info? e = some i
  hz : i.zero = some z
  hsz : i.size = esz
  hby : i.bytes = bytes
  hzs : z.cells.size = esz
def appK (P : Program) (ts : Array TypeId) (esz bytes : Nat) : Bool :=
  match ts.toList with
  | [sT, xT] =>
    match P.underlying sT with
    | some (.slice e) =>
      (match P.underlying xT with | some (.slice _) | some .string => true | _ => false) &&
      (match P.info? e with
       | some i => decide (i.size = esz) && decide (i.bytes = bytes) && (match i.zero with | some z => decide (z.cells.size = esz) | none => false)
       | none => false)
    | _ => false
  | _ => false
theorem appK_spec {ts : Array TypeId} {esz bytes : Nat} (h : appK P ts esz bytes = true) : ∃ sT xT e i z, ts = #[sT, xT] ∧ AppK P sT xT e esz bytes i z := by
  unfold appK at h
  split at h
  · rename_i sT xT h0
    split at h
    · rename_i e he
      simp only [Bool.and_eq_true] at h
      obtain ⟨h2, h3⟩ := h
      cases hi : P.info? e with
      | none => simp [hi] at h3
      | some i =>
        simp only [hi, Bool.and_eq_true, decide_eq_true_eq] at h3
        obtain ⟨⟨h4, h5⟩, h6⟩ := h3
        cases hz : i.zero with
        | none => simp [hz] at h6
        | some z =>
          simp only [hz, decide_eq_true_eq] at h6
          refine ⟨sT, xT, e, i, z, by rw [← Array.toArray_toList (xs := ts), h0], ⟨he, ?_, hi, hz, h4, h5, h6⟩⟩
          cases hd : P.underlying xT with
          | none => simp [hd] at h2
          | some d => cases d <;> simp [hd] at h2 <;> first | exact .inl ⟨_, rfl⟩ | exact .inr rfl
    · cases h
  · cases h
/-- append in its place; and where it grows -/
theorem append_fits {sT xT e ty : TypeId} {esz bytes : Nat} {i : TypeInfo} {z : Value} (k : AppK P sT xT e esz bytes i z) {base : Option Addr} {sLen sCap n : Nat} {x : Value} {new : List Value}
    (hl : (Builtin.lenOf x).run P w = .ok n w) (hn : (Builtin.firstCells esz n x).run P w = .ok new.toArray w) (hfit : sLen + n ≤ sCap) {w' : World}
    (hst : match base with | some a => (storeCells (a.add (sLen * esz)) new).run P w = .ok () w' | none => w' = w) :
    (Builtin.append_ #[sT, xT] ty #[.slice base sLen sCap, x]).run P w = .ok (.slice base (sLen + n) sCap) w' := by
  have hsz := k.hsz
  subst hsz
  have hs1 : ∀ (w : World), (sizeOf e).run P w = .ok i.size w := fun w => by simp [sizeOf, typeInfo, k.hi]
  have hu := @run_underlying P sT _ k.hs
  rcases k.hx with ⟨e', hd⟩ | hd
  all_goals
    cases base with
    | none => subst hst; simp [Builtin.append_, hu, run_underlying hd, hs1, hl, hfit, hn]
    | some a => simp [Builtin.append_, hu, run_underlying hd, hs1, hl, hfit, hn, hst]
theorem append_grows {sT xT e ty : TypeId} {esz bytes : Nat} {i : TypeInfo} {z : Value} (k : AppK P sT xT e esz bytes i z) {base : Option Addr} {sLen sCap n : Nat} {x : Value} {new old : List Value}
    (hl : (Builtin.lenOf x).run P w = .ok n w) (hn : (Builtin.firstCells esz n x).run P w.drew = .ok new.toArray w.drew) (hgrow : sCap < sLen + n) (hroom : (sLen + n) * bytes ≤ room) (hb : 0 < bytes)
    (hold : (Builtin.firstCells esz sLen (.slice base sLen sCap)).run P w.drew = .ok old.toArray w.drew) :
    ∃ cap, sLen + n ≤ cap ∧ (Builtin.append_ #[sT, xT] ty #[.slice base sLen sCap, x]).run P w =
        .ok (.slice (some ⟨w.heap.size, 0, none⟩) (sLen + n) cap) (w.drew.alloc (.cells (old.toArray ++ new.toArray ++ Builtin.zeroCells z.cells (cap - (sLen + n))) e)) := by
  have hsz := k.hsz
  subst hsz
  have hby := k.hby
  subst hby
  have h48' : ¬ (281474976710656 < Builtin.nextslicecap (sLen + n) sCap * i.bytes) := by
    have := growslice_fits (bytes := i.bytes) hgrow (by simpa [room] using hroom)
    omega
  have hnb : ¬ i.bytes = 0 := by omega
  have hno : ¬ sLen + n ≤ sCap := by omega
  have hs1 : ∀ (w : World), (sizeOf e).run P w = .ok i.size w := fun w => by simp [sizeOf, typeInfo, k.hi]
  have hu := @run_underlying P sT _ k.hs
  refine ⟨grownCap w (sLen + n) sCap e, grownCap_ge _ _ _ _, ?_⟩
  rcases k.hx with ⟨e', hd⟩ | hd
  all_goals simp [Builtin.append_, hu, run_underlying hd, hs1, hl, hno, typeInfo, zeroValue, k.hi, k.hz, h48', hnb, hold, hn, Question.forced, grownCap, newRow]
  all_goals
    congr 2
    apply Array.ext'
    simp [List.append_assoc]
theorem setA_get : ∀ (vs : List Value) (o : Nat) (cur : Array Value) (j : Nat), o + vs.length ≤ cur.size → (setA cur o vs)[j]? = if o ≤ j ∧ j < o + vs.length then vs[j - o]? else cur[j]?
  | [], o, cur, j, _ => by simp only [setA, List.length_nil]; rw [if_neg (by omega)]
  | v :: r, o, cur, j, hl => by
    simp only [List.length_cons] at hl
    rw [setA, setA_get r (o + 1) _ j (by simp; omega)]
    by_cases h1 : o + 1 ≤ j ∧ j < o + 1 + r.length
    · rw [if_pos h1, if_pos (by simp only [List.length_cons]; omega), show j - o = (j - (o + 1)) + 1 by omega]
      rfl
    · rw [if_neg h1]
      by_cases h2 : j = o
      · subst h2
        rw [if_pos (by simp only [List.length_cons]; omega)]
        simp [show j < cur.size by omega]
      · rw [Array.getElem?_setIfInBounds_ne (Ne.symm h2), if_neg (by simp only [List.length_cons]; omega)]
theorem size_zeroCells' (z : Array Value) (n : Nat) : (Builtin.zeroCells z n).size = n * z.size := by simp [Builtin.zeroCells]
/-- a new row out of what is known, and of zeros -/
theorem Rel.grown (r : Rel lk ρ h w) (f : ρ h.next = none) {cs : List AV} {xs : List Value} {zs : Array Value} (hx : F2 (VC lk ρ) cs xs) (e : TypeId) :
    Rel lk (ρ.add h.next w.heap.size (xs.length + zs.size)) (h.alloc (.row cs false)) (w.alloc (.cells (xs.toArray ++ zs) e)) ∧
      Stp ρ h w (ρ.add h.next w.heap.size (xs.length + zs.size)) (h.alloc (.row cs false)) (w.alloc (.cells (xs.toArray ++ zs) e)) := by
  have := r.allocRow f (cs := cs) (cur := xs.toArray ++ zs) (ty := e) (fz := (0, 0)) (by have := hx.length; simp; omega) ⟨Nat.le_refl _, fun j _ => by simp⟩ (fun j x hj => by
    obtain ⟨y, h1, h2⟩ := hx.get hj
    have hlt := (List.getElem?_eq_some_iff.1 h1).1
    exact ⟨y, by rw [Array.getElem?_append_left (by simpa using hlt)]; simpa using h1, h2⟩)
  simpa using this
theorem Stp.drew_then {ρ' : Rho} {h' : AH} {w' : World} (s : Stp ρ h w.drew ρ' h' w') : Stp ρ h w ρ' h' w' := (Stp.drew ρ h w).trans s

theorem aapp_sound (r : Rel lk ρ h w) {ts : Array TypeId} {ty : TypeId} {esz bytes : Nat} {u x v : AV} {a c : Value} {h' : AH} (ht : appK P ts esz bytes = true) (f : Free ρ h.next h'.next) (hu : VE lk ρ u a) (hx : VE lk ρ x c)
    (hr : aapp esz bytes u x h = some (v, h')) : ∃ y w' ρ', (Builtin.append_ ts ty #[a, c]).run P w = .ok y w' ∧ VE lk ρ' v y ∧ Rel lk ρ' h' w' ∧ Stp ρ h w ρ' h' w' := by
  obtain ⟨sT, xT, e, i, z, rfl, k⟩ := appK_spec ht
  unfold aapp at hr
  split at hr
  · cases hr
  · rename_i n new hsh
    obtain ⟨hl, xs, hn, hxs, hlen⟩ := show_sound (P := P) r hx hsh
    obtain ⟨_, xs', hn', hxs', _⟩ := show_sound (P := P) r.drew hx hsh
    have hl' : ∀ (h2 : AH), h'.next = h.next + 1 → ρ h.next = none := fun h2 e => f h.next (Nat.le_refl _) (by omega)
    split at hr
    · rename_i hpos
      have room2 : ∀ {m cap : Nat}, m + n ≤ cap → z.cells.size = esz → ∀ (old : List Value), old.length = m * esz → cap * esz ≤ (old ++ xs').length + (Builtin.zeroCells z.cells (cap - (m + n))).size := by
        intro m cap hmn hz old ho
        have hxl := hxs'.length
        rw [List.length_append, size_zeroCells', hz, ho, ← hxl, hlen, ← Nat.add_mul, ← Nat.add_mul]
        exact Nat.mul_le_mul_right _ (by omega)
      split at hr
      · obtain rfl := hu.nils
        split at hr
        · rename_i hn0
          cases hr
          subst hn0
          exact ⟨_, w, ρ, append_fits k hl hn (Nat.le_refl 0) rfl, VC.nils.e, r, .refl _ _ _⟩
        · rename_i hn0
          split at hr
          · rename_i hroom
            cases hr
            obtain ⟨cap, hcap, hrun⟩ := append_grows (ty := ty) k (base := none) (sLen := 0) (sCap := 0) (old := []) hl hn' (by omega) (by simpa using hroom) hpos.2 (by simp [Builtin.firstCells])
            have hf := hl' h rfl
            have hg := Rel.grown r.drew hf (zs := Builtin.zeroCells z.cells (cap - (0 + n))) hxs' e
            have h2 := room2 hcap k.hzs [] (by simp)
            refine ⟨_, _, _, hrun, ?_, by simpa using hg.1, Stp.drew_then (by simpa using hg.2)⟩
            simp only [Nat.zero_add] at hcap ⊢
            refine (VC.sl (Rho.add_same _ _ _ _) (Nat.le_refl _) hcap (fun h0 => by omega) (.inl rfl) (fun _ => ?_)).e
            simpa using h2
          · cases hr
      · obtain ⟨ad, rfl⟩ := hu.es
        split at hr
        · rename_i hn0
          cases hr
          subst hn0
          have hnew : xs = [] := List.eq_nil_of_length_eq_zero (by rw [← hxs.length, hlen]; simp)
          subst hnew
          exact ⟨_, w, ρ, append_fits k hl hn (Nat.le_refl 0) rfl, (VC.es _).e, r, .refl _ _ _⟩
        · rename_i hn0
          split at hr
          · rename_i hroom
            cases hr
            obtain ⟨cap, hcap, hrun⟩ := append_grows (ty := ty) k (base := some ad) (sLen := 0) (sCap := 0) (old := []) hl hn' (by omega) (by simpa using hroom) hpos.2 (by simp [Builtin.firstCells, loadCells, loadCellsFrom])
            have hf := hl' h rfl
            have hg := Rel.grown r.drew hf (zs := Builtin.zeroCells z.cells (cap - (0 + n))) hxs' e
            have h2 := room2 hcap k.hzs [] (by simp)
            refine ⟨_, _, _, hrun, ?_, by simpa using hg.1, Stp.drew_then (by simpa using hg.2)⟩
            simp only [Nat.zero_add] at hcap ⊢
            refine (VC.sl (Rho.add_same _ _ _ _) (Nat.le_refl _) hcap (fun h0 => by omega) (.inl rfl) (fun _ => ?_)).e
            simpa using h2
          · cases hr
      · rename_i id off len cap lo
        obtain ⟨b, t, o, c', hid, g0, g1, g2, g3, g4, rfl⟩ := hu.sl
        split at hr
        · rename_i hfit
          split at hr
          · rename_i hn0
            cases hr
            subst hn0
            have hnew : xs = [] := List.eq_nil_of_length_eq_zero (by rw [← hxs.length, hlen]; simp)
            subst hnew
            exact ⟨_, w, ρ, append_fits k hl hn (by omega) rfl, hu, r, .refl _ _ _⟩
          · rename_i hn0
            cases hw : h.wr id (off + len * esz) new with
            | none => simp [hw] at hr
            | some h2 =>
              simp [hw] at hr
              obtain ⟨rfl, rfl⟩ := hr
              have ho : o = off := g3.resolve_right (by omega)
              subst ho
              obtain ⟨h3, h4, h5⟩ := wr_sound (P := P) r hid hw hxs
              exact ⟨_, _, ρ, append_fits k hl hn (by omega) (by simpa [Addr.add_lit] using h3), (VC.sl hid hfit g1 g2 (.inl rfl) g4).e, h4, h5⟩
        · rename_i hfit
          split at hr
          · rename_i hroom
            cases ho : h.rdn id off (len * esz) with
            | none => simp [ho] at hr
            | some old =>
              simp only [ho] at hr
              have hsho : ashow esz (.sl id off len cap lo) h = some (len, old) := by simp [ashow, ho]
              obtain ⟨_, os, hos, hfo, hlo⟩ := show_sound (P := P) r.drew hu hsho
              have hol : os.length = len * esz := by rw [← hfo.length, hlo]
              -- a new block
              have fresh : ∀ (h0 : AH), h0.next = h.next → Rel lk ρ h0 w.drew → Stp ρ h w.drew ρ h0 w.drew → c' < len + n → ρ h.next = none →
                  ∃ y w' ρ', (Builtin.append_ #[sT, xT] ty #[.slice (some ⟨b, o, none⟩) len c', c]).run P w = .ok y w' ∧ VE lk ρ' (.sl h.next 0 (len + n) (len + n) esz) y ∧
                    Rel lk ρ' (h0.alloc (.row (old ++ new) false)) w' ∧ Stp ρ h w ρ' (h0.alloc (.row (old ++ new) false)) w' := by
                intro h0 hn0 r0 s0 hlt hf
                obtain ⟨cap', hcap, hrun⟩ := append_grows (ty := ty) k hl hn' hlt hroom hpos.2 hos
                have hg := Rel.grown r0 (by rw [hn0]; exact hf) (zs := Builtin.zeroCells z.cells (cap' - (len + n))) (hfo.append hxs') e
                have h2 := room2 hcap k.hzs os hol
                rw [show (os.toArray ++ xs'.toArray) = (os ++ xs').toArray by simp] at hrun
                refine ⟨_, _, _, hrun, ?_, hg.1, Stp.drew_then (s0.trans hg.2)⟩
                rw [hn0]
                exact (VC.sl (Rho.add_same _ _ _ _) (Nat.le_refl _) hcap (fun h0 => by omega) (.inl rfl) (fun _ => by simpa using h2)).e
              split at hr
              · rename_i hlo0
                cases hr
                exact fresh h rfl r.drew (.refl _ _ _) (by have := g2 hlo0; omega) (hl' h rfl)
              · rename_i hlo0
                split at hr
                · rename_i cs hb
                  split at hr
                  · rename_i hoff
                    obtain ⟨rfl, rfl⟩ := hoff
                    cases hr
                    have hf := hl' h rfl
                    by_cases hc : len + n ≤ c'
                    · have ho0 : o = 0 := g3.resolve_right (by omega)
                      subst ho0
                      obtain ⟨cur, ty', fz, h1, h2, h3, h4, h5⟩ := r.row hid hb
                      have hxl := hxs.length
                      have hle : (len + n) * lo ≤ t := Nat.le_trans (Nat.mul_le_mul_right _ hc) (by have := g4 hlo0; omega)
                      rw [Nat.add_mul] at hle
                      have hst := run_storeRow (P := P) (o := len * lo) xs h1 (by rw [← hxl, hlen]; omega) (by subst h2; exact (h4 rfl).2) hxs.one
                      have hcs : old = cs.take (len * lo) := by
                        unfold AH.rdn at ho
                        rw [hb] at ho
                        simp only [Nat.zero_add, List.drop_zero] at ho
                        split at ho
                        · cases ho; rfl
                        · cases ho
                      have hm := r.move hf hid hb (cs' := old ++ new) (o := len * lo) (xs := xs) (by rw [List.length_append, hlo, hlen]; omega) (fun cur2 q1 q2 j y hy => by
                        rw [setA_get _ _ _ _ (by rw [← hxl, hlen]; omega)]
                        rw [List.getElem?_append] at hy
                        split at hy
                        · rename_i hj
                          rw [if_neg (by omega)]
                          rw [hcs, List.getElem?_take] at hy
                          split at hy
                          · exact q1 j y hy
                          · cases hy
                        · rename_i hj
                          obtain ⟨q, q3, q4⟩ := hxs.get hy
                          have := (List.getElem?_eq_some_iff.1 q3).1
                          rw [hlo] at hj q3
                          rw [if_pos (by rw [hlo] at this; omega)]
                          exact ⟨q, q3, q4.u⟩)
                      refine ⟨_, _, _, append_fits k hl hn hc (by simpa [Addr.add_lit] using hst), ?_, hm.1, hm.2⟩
                      exact (VC.sl (Rho.add_same _ _ _ _) (Nat.le_refl _) hc (fun h0 => absurd h0 hlo0) (.inl rfl) (fun _ => by have := g4 hlo0; omega)).e
                    · have hk := r.drew.kill id hid
                      exact fresh (h.set id none) rfl hk.1 hk.2 (by omega) hf
                  · cases hr
                · cases hr
          · cases hr
      · cases hr
    · cases hr
end
end Go.Proofs.Ytadbipeachcekaa.Ab
/- The operations, part five: literals, make, copy, clear, lengths, conversions. -/
namespace Go.Proofs.Ytadbipeachcekaa.Ab
open Go
set_option linter.unusedVariables false
section
variable {P : Program} {lk : Lk} {ρ : Rho} {h : AH} {w : World}

theorem F2.setl {cs vs : List AV} {xs : List Value} (hv : F2 (VC lk ρ) vs xs) : ∀ {o : Nat} {cur : Array Value}, F2 (VC lk ρ) cs cur.toList → F2 (VC lk ρ) (setl cs o vs) (setA cur o xs).toList := by
  induction vs generalizing cs xs with
  | nil => cases xs with | nil => exact fun h => h | cons => exact hv.elim
  | cons v vs ih =>
    cases xs with
    | nil => exact hv.elim
    | cons x xs =>
      intro o cur hc
      exact ih hv.2 (by simpa using hc.set o hv.1)
theorem foldl_setA (off : Nat) : ∀ (l : List Value) (k : Nat) (cells : Array Value), (l.zipIdx k).foldl (fun cs (p : Value × Nat) => cs.setIfInBounds (off + p.2) p.1) cells = setA cells (off + k) l
  | [], _, _ => rfl
  | v :: r, k, cells => by
    simp only [List.zipIdx_cons, List.foldl_cons, setA]
    rw [foldl_setA off r (k + 1)]
    rfl
theorem foldl_setA' (off : Nat) (xs cells : Array Value) : xs.zipIdx.foldl (fun cs (p : Value × Nat) => cs.setIfInBounds (off + p.2) p.1) cells = setA cells off xs.toList := by
  have := foldl_setA off xs.toList 0 cells
  rw [← Array.foldl_toList, Array.toList_zipIdx]
  simpa using this

/-- the parts of a literal -/
def partK (lk : Lk) (place : Nat → Option (Nat × Nat)) (p : Nat × Operand) (q : Nat × Nat × AX) : Bool := decide (place p.1 = some (q.1, q.2.1)) && chkX lk p.2 q.2.2
theorem fills_sound {nt : Nat} {e : Env} {a : Act} (er : ER lk ρ nt e a) {place : Nat → Option (Nat × Nat)} : ∀ {ps : List (Nat × Operand)} {qs : List (Nat × Nat × AX)} {z cs : List AV} {cells : Array Value},
    all2 (partK lk place) ps qs = true → F2 (VC lk ρ) z cells.toList → fills e z qs = some cs → ∃ cells', Instr.fill place cells (ps.map fun p => (p.1, a.eval p.2)) = some cells' ∧ F2 (VC lk ρ) cs cells'.toList
  | [], [], z, cs, cells, _, hz, hr => by simp [fills] at hr; subst hr; exact ⟨cells, rfl, hz⟩
  | p :: ps, q :: qs, z, cs, cells, hc, hz, hr => by
    simp only [all2, partK, Bool.and_eq_true, decide_eq_true_eq] at hc
    obtain ⟨⟨h1, h2⟩, h3⟩ := hc
    obtain ⟨o, n, x⟩ := q
    simp only [fills] at hr
    split at hr
    · rename_i c hcl
      split at hr
      · rename_i hl
        obtain ⟨_, hv⟩ := (chkX_sound h2 er).cl hcl
        have hvl := hv.length
        have hzl := hz.length
        have e1 : (a.eval p.2).cells.size = n := by simp at hvl; omega
        have e2 : ¬ o + (a.eval p.2).cells.size > cells.size := by simp at hzl; omega
        obtain ⟨cells', h4, h5⟩ := fills_sound er h3 (hv.setl (o := o) hz) hr
        refine ⟨cells', ?_, h5⟩
        simp only [List.map_cons, Instr.fill, h1]
        rw [if_neg (by simp [e1]; omega)]
        have := foldl_setA' o (a.eval p.2).cells cells
        rw [show (Array.foldl (fun cs (x : Value × Nat) => match x with | (c, j) => cs.setIfInBounds (o + j) c) cells (a.eval p.2).cells.zipIdx) = setA cells o (a.eval p.2).cells.toList from this]
        exact h4
      · cases hr
    · cases hr
  | [], _ :: _, _, _, _, hc, _, _ => by simp [all2] at hc
  | _ :: _, [], _, _, _, hc, _, _ => by simp [all2] at hc

def buildK (P : Program) (lk : Lk) (t : TypeId) (ps : Array (Nat × Operand)) (z : List AV) (qs : List (Nat × Nat × AX)) : Bool :=
  match P.info? t with
  | some it =>
    match it.zero with
    | some zv =>
      chkZ zv z &&
      (match P.underlying t with
       | some (.array _ e) => (match P.info? e with | some ie => all2 (partK lk fun i => some (i * ie.size, ie.size)) ps.toList qs | none => false)
       | some (.struct fields) => (match fields.toList.mapM (fun f => (P.info? f.type).map fun i => (f.offset, i.size)) with | some places => all2 (partK lk fun i => places.toArray[i]?) ps.toList qs | none => false)
       | _ => false)
    | none => false
  | none => false
theorem build_sound {nt : Nat} {e : Env} {a : Act} (er : ER lk ρ nt e a) {t : TypeId} {ps : Array (Nat × Operand)} {z cs : List AV} {qs : List (Nat × Nat × AX)} (hc : buildK P lk t ps z qs = true) (hr : fills e z qs = some cs) :
    ∃ x, (Instr.build t (ps.map fun (i, x) => (i, a.eval x))).run P w = .ok (.agg x) w ∧ F2 (VC lk ρ) cs x.toList := by
  unfold buildK at hc
  cases hi : P.info? t with
  | none => simp [hi] at hc
  | some it =>
    cases hz : it.zero with
    | none => simp [hi, hz] at hc
    | some zv =>
      simp only [hi, hz, Bool.and_eq_true] at hc
      obtain ⟨h1, h2⟩ := hc
      have hz0 : F2 (VC lk ρ) z zv.cells.toList := all2_sound (fun _ _ => chkV_sound) h1
      cases hu : P.underlying t with
      | none => simp [hu] at h2
      | some d =>
        cases d with
        | array n el =>
          simp only [hu] at h2
          cases hie : P.info? el with
          | none => simp [hie] at h2
          | some ie =>
            simp only [hie] at h2
            obtain ⟨cells', h4, h5⟩ := fills_sound er h2 hz0 hr
            exact ⟨cells', run_build w t _ _ (by simp only [Program.built, hi, hu, hz, hie]; simpa using h4), h5⟩
        | struct fields =>
          simp only [hu] at h2
          cases hp : fields.toList.mapM (fun f => (P.info? f.type).map fun i => (f.offset, i.size)) with
          | none => simp [hp] at h2
          | some places =>
            simp only [hp] at h2
            obtain ⟨cells', h4, h5⟩ := fills_sound er h2 hz0 hr
            exact ⟨cells', run_build w t _ _ (by simp only [Program.built, hi, hu, hz, hp]; simpa using h4), h5⟩
        | _ => simp [hu] at h2

/-! ### zeros -/
theorem length_zeros (z : List AV) : ∀ n, (zeros z n).length = n * z.length
  | 0 => by simp [zeros]
  | n + 1 => by rw [zeros, List.length_append, length_zeros z n, Nat.add_mul]; omega
theorem zeros_get (z : List AV) : ∀ (n j : Nat), j < n * z.length → (zeros z n)[j]? = z[j % z.length]?
  | 0, j, h => by omega
  | n + 1, j, h => by
    rw [zeros, List.getElem?_append]
    split
    · rename_i hl
      rw [Nat.mod_eq_of_lt hl]
    · rename_i hl
      rw [zeros_get z n _ (by rw [Nat.add_mul] at h; omega)]
      congr 1
      rw [← Nat.mod_eq_sub_mod (by omega)]
theorem zeros_F2 {z : List AV} {zc : Array Value} (hz : F2 (VC lk ρ) z zc.toList) (n : Nat) {xs : List Value} (hl : xs.length = n * zc.size) (hx : ∀ j, j < n * zc.size → xs[j]? = zc[j % zc.size]?) : F2 (VC lk ρ) (zeros z n) xs := by
  have hzl : z.length = zc.size := by simpa using hz.length
  refine F2.of_get (by rw [length_zeros, hl, hzl]) fun j u v hu hv => ?_
  have hj : j < n * z.length := by have := (List.getElem?_eq_some_iff.1 hu).1; rwa [length_zeros] at this
  rw [zeros_get z n j hj] at hu
  rw [hx j (by rw [← hzl]; exact hj)] at hv
  obtain ⟨y, h1, h2⟩ := hz.getA hu
  rw [hzl, hv] at h1
  cases h1
  exact h2
theorem getBang_of {zc : Array Value} {j : Nat} (h : j < zc.size) : some (zc[j]!) = zc[j]? := by simp [h]
theorem zeros_made {z : List AV} {zc : Array Value} (hz : F2 (VC lk ρ) z zc.toList) (n : Nat) : F2 (VC lk ρ) (zeros z n) (madeCells zc (n * zc.size)).toList := by
  refine zeros_F2 hz n (by simp [madeCells]) fun j hj => ?_
  have h0 : 0 < zc.size := Nat.pos_of_mul_pos_left (Nat.lt_of_le_of_lt (Nat.zero_le _) hj)
  have := Nat.mod_lt j h0
  simp [madeCells, hj, this]
theorem zeros_zero {z : List AV} {zc : Array Value} (hz : F2 (VC lk ρ) z zc.toList) (n : Nat) : F2 (VC lk ρ) (zeros z n) (Builtin.zeroCells zc n).toList := by
  refine zeros_F2 hz n (by simp [Builtin.zeroCells]) fun j hj => ?_
  have h0 : 0 < zc.size := Nat.pos_of_mul_pos_left (Nat.lt_of_le_of_lt (Nat.zero_le _) hj)
  have := Nat.mod_lt j h0
  simp [Builtin.zeroCells, hj, this]
theorem F2.row {cs : List AV} {cur : Array Value} (hf : F2 (VC lk ρ) cs cur.toList) : ∀ (j : Nat) (x : AV), cs[j]? = some x → ∃ y, cur[j]? = some y ∧ VC lk ρ x y := fun j x hx => hf.getA hx
/-- a new block, all of whose cells are known -/
theorem Rel.newRow (r : Rel lk ρ h w) (f : ρ h.next = none) {cs : List AV} {cur : Array Value} (hf : F2 (VC lk ρ) cs cur.toList) (ty : TypeId) :
    Rel lk (ρ.add h.next w.heap.size cur.size) (h.alloc (.row cs false)) (w.alloc (.cells cur ty)) ∧ Stp ρ h w (ρ.add h.next w.heap.size cur.size) (h.alloc (.row cs false)) (w.alloc (.cells cur ty)) :=
  r.allocRow f (by have := hf.length; simp at this; omega) ⟨Nat.le_refl _, fun j _ => by simp⟩ hf.row

def bslK (P : Program) (lk : Lk) (t : TypeId) (len : Nat) (ps : Array (Nat × Operand)) (esz : Nat) (z : List AV) (qs : List (Nat × Nat × AX)) : Bool :=
  match P.underlying t with
  | some (.slice e) =>
    match zT P e with
    | some zv => decide (szT P e = some esz) && decide (zv.cells.size = esz) && decide (len * esz ≤ 16777216) && all2 chkV (madeCells zv.cells (len * esz)).toList z && all2 (partK lk fun i => some (i * esz, esz)) ps.toList qs
    | none => false
  | _ => false
theorem bsl_sound (r : Rel lk ρ h w) {nt : Nat} {e : Env} {a : Act} (er : ER lk ρ nt e a) (f : ρ h.next = none) {t : TypeId} {len esz : Nat} {ps : Array (Nat × Operand)} {z cs : List AV} {qs : List (Nat × Nat × AX)}
    (hc : bslK P lk t len ps esz z qs = true) (hr : fills e z qs = some cs) (hl : cs.length = len * esz) :
    ∃ y w' ρ', (Instr.buildSlice t len (ps.map fun (i, x) => (i, a.eval x))).run P w = .ok y w' ∧ VE lk ρ' (.sl h.next 0 len len 0) y ∧ Rel lk ρ' (h.alloc (.row cs false)) w' ∧ Stp ρ h w ρ' (h.alloc (.row cs false)) w' := by
  unfold bslK at hc
  split at hc
  · rename_i el hd
    cases hz : zT P el with
    | none => simp [hz] at hc
    | some zv =>
      simp only [hz, Bool.and_eq_true, decide_eq_true_eq] at hc
      obtain ⟨⟨⟨⟨h1, h2⟩, h3⟩, h4⟩, h5⟩ := hc
      have hz0 : F2 (VC lk ρ) z (madeCells zv.cells (len * esz)).toList := all2_sound (fun _ _ => chkV_sound) h4
      obtain ⟨cells', h6, h7⟩ := fills_sound er h5 hz0 hr
      have hn := r.newRow f h7 el
      refine ⟨_, _, _, ?_, (VC.sl (Rho.add_same _ _ _ _) (Nat.le_refl _) (Nat.le_refl _) (fun _ => rfl) (.inl rfl) (fun h => absurd rfl h)).e, hn.1, hn.2⟩
      have h6' : Instr.fill (fun i => some (i * esz, esz)) (madeCells zv.cells (len * esz)) (List.map (fun p => (p.1, a.eval p.2)) ps.toList) = some cells' := h6
      have hm : madeCells zv.cells (len * esz) = (Array.range (len * esz)).map (zv.cells[· % zv.cells.size]!) := rfl
      by_cases h0 : len * esz = 0
      · have e0 : madeCells zv.cells (len * esz) = #[] := by rw [h0]; simp [madeCells]
        rw [e0] at h6'
        simp [Instr.buildSlice, run_underlying hd, run_szT h1, h0, newRow, Array.range_zero', h6']
      · rw [hm] at h6'
        simp [Instr.buildSlice, run_underlying hd, run_szT h1, h0, show ¬ 16777216 < len * esz by omega, run_zT hz, newRow, h6']
  · cases hc

def mksK (P : Program) (t : TypeId) (esz bytes : Nat) (z : List AV) : Bool :=
  match P.underlying t with
  | some (.slice e) =>
    match P.info? e with
    | some i => decide (i.size = esz) && decide (i.bytes = bytes) && (match i.zero with | some zv => decide (zv.cells.size = esz) && chkZ zv z | none => false)
    | none => false
  | _ => false
theorem amake_sound (r : Rel lk ρ h w) {t : TypeId} {esz bytes : Nat} {z : List AV} {u x v : AV} {a c : Value} {h' : AH} (ht : mksK P t esz bytes z = true) (f : Free ρ h.next h'.next) (hu : VE lk ρ u a) (hx : VE lk ρ x c)
    (hr : amake esz bytes z u x h = some (v, h')) : ∃ y w' ρ', (Instr.makeSlice t a c).run P w = .ok y w' ∧ VE lk ρ' v y ∧ Rel lk ρ' h' w' ∧ Stp ρ h w ρ' h' w' := by
  unfold mksK at ht
  split at ht
  · rename_i e hd
    cases hi : P.info? e with
    | none => simp [hi] at ht
    | some i =>
      cases hz : i.zero with
      | none => simp [hi, hz] at ht
      | some zv =>
        simp only [hi, hz, Bool.and_eq_true, decide_eq_true_eq] at ht
        obtain ⟨⟨h1, h2⟩, h3, h4⟩ := ht
        unfold amake at hr
        split at hr
        · rename_i l c'
          split at hr
          · rename_i hb
            obtain ⟨b1, b2, b3, b4, b5⟩ := hb
            cases hr
            obtain rfl := hu.i
            obtain rfl := hx.i
            have hz0 : F2 (VC lk ρ) z zv.cells.toList := all2_sound (fun _ _ => chkV_sound) h4
            have hf := zeros_made hz0 c'.toNat
            have hn := r.newRow (f h.next (Nat.le_refl _) (Nat.lt_succ_self _)) hf e
            have b3' : c' * (bytes : Int) ≤ 140737488355328 := by simpa [room] using b3
            have hcb : (i.bytes : Int) * c' ≤ 281474976710656 := by rw [h2, Int.mul_comm]; omega
            have hc63 : c' ≤ 9223372036854775807 := by
              have : c' * 1 ≤ c' * (bytes : Int) := Int.mul_le_mul_of_nonneg_left (by omega) (by omega)
              omega
            have hrun := run_make (P := P) w t e i zv hd hi hz .i64 .i64 l c' b1 b2 hcb hc63
            rw [h1, ← h3] at hrun
            exact ⟨_, _, _, hrun, (VC.sl (Rho.add_same _ _ _ _) (by omega) (Nat.le_refl _) (fun _ => rfl) (.inl rfl) (fun h => absurd rfl h)).e, hn.1, hn.2⟩
          · cases hr
        · cases hr
  · cases ht

/-! ### copy, clear -/
def cpyK (P : Program) (ts : Array TypeId) (esz : Nat) : Bool :=
  match ts.toList with
  | t :: _ => elK P t esz
  | _ => false
theorem acopy_sound (r : Rel lk ρ h w) {ts : Array TypeId} {ty : TypeId} {esz : Nat} {u x v : AV} {a c : Value} {h' : AH} (ht : cpyK P ts esz = true) (hu : VE lk ρ u a) (hx : VE lk ρ x c)
    (hr : acopy esz u x h = some (v, h')) : ∃ y w', (Builtin.copy_ ts ty #[a, c]).run P w = .ok y w' ∧ VE lk ρ v y ∧ Rel lk ρ h' w' ∧ Stp ρ h w ρ h' w' := by
  unfold cpyK at ht
  split at ht
  · rename_i t tr hts
    obtain ⟨e, hd, hs⟩ := elK_spec ht
    have ht0 : ts[0]? = some t := by rw [← Array.getElem?_toList, hts]; rfl
    unfold acopy at hr
    split at hr
    · cases hr
    · rename_i n new hsh
      obtain ⟨hl, xs, hn, hxs, hlen⟩ := show_sound (P := P) r hx hsh
      -- the first cells of what is copied
      have first : ∀ m, m ≤ n → (Builtin.firstCells esz m c).run P w = .ok (xs.take (m * esz)).toArray w := by
        intro m hm
        have hml : m * esz ≤ n * esz := Nat.mul_le_mul_right _ hm
        unfold ashow at hsh
        split at hsh
        · cases hsh
          obtain rfl := hx.nils
          have : m = 0 := by omega
          subst this
          have : xs = [] := List.eq_nil_of_length_eq_zero (by rw [← hxs.length]; rfl)
          subst this
          simp [Builtin.firstCells]
        · cases hsh
          obtain ⟨ad, rfl⟩ := hx.es
          have : m = 0 := by omega
          subst this
          have : xs = [] := List.eq_nil_of_length_eq_zero (by rw [← hxs.length]; rfl)
          subst this
          simp [Builtin.firstCells, loadCells, loadCellsFrom]
        · rename_i id off k cap lo
          obtain ⟨b, t', o, c', hid, g0, g1, g2, g3, g4, rfl⟩ := hx.sl
          cases hv : h.rdn id off (k * esz) with
          | none => simp [hv] at hsh
          | some q =>
            simp [hv] at hsh
            obtain ⟨rfl, rfl⟩ := hsh
            simp only [Builtin.firstCells] at hn ⊢
            rcases Nat.eq_zero_or_pos (m * esz) with h0 | h0
            · rw [h0]; simp [loadCells, loadCellsFrom]
            · have ho : o = off := g3.resolve_right (by
                intro hc0
                have : k = 0 := by omega
                subst this
                omega)
              subst ho
              unfold AH.rdn at hv
              split at hv
              · rename_i cs' ro hb
                split at hv
                · rename_i hll
                  cases hv
                  obtain ⟨cur, ty', fz, q1, q2, q3, q4, q5⟩ := r.row hid hb
                  rw [run_loadRow q1 (k * esz) (by omega)] at hn
                  have e1 : (List.take (k * esz) (List.drop o cur.toList)) = xs := by
                    have := congrArg (fun r => match r with | Result.ok x _ => x.toList | _ => []) hn
                    simpa using this
                  rw [run_loadRow q1 (m * esz) (by omega), ← e1, List.take_take, Nat.min_eq_left hml]
                · cases hv
              · cases hv
        · rename_i l
          split at hsh
          · rename_i he
            cases hsh
            subst he
            obtain ⟨y, hy, rfl⟩ := hx.s
            simp only [Builtin.firstCells, Sem.run_pure] at hn ⊢
            have e1 : xs = l.map fun c => Value.int .u8 c.toNat := by
              have := congrArg (fun r => match r with | Result.ok x _ => x.toList | _ => []) hn
              have hy2 : y = ⟨l.toArray⟩ := by cases y; simp at hy; simp [← hy]
              rw [hy2, ByteArray.extract_mk] at this
              simp only [List.drop_zero, Nat.sub_zero, List.take_length] at this
              simpa using this.symm
            have hy2 : y = ⟨l.toArray⟩ := by cases y; simp at hy; simp [← hy]
            rw [hy2, ByteArray.extract_mk, e1]
            simp [List.map_take]
          · cases hsh
        · cases hsh
      split at hr
      · obtain rfl := hu.nils
        cases hr
        refine ⟨.int .i64 0, w, ?_, (VC.i _ _).e, r, .refl _ _ _⟩
        have := first 0 (Nat.zero_le _)
        simp at this
        simp [Builtin.copy_, ht0, run_underlying hd, hl, run_szT hs, this, goInt]
      · rename_i id off len cap lo
        obtain ⟨b, t', o, c', hid, g0, g1, g2, g3, g4, rfl⟩ := hu.sl
        have hf := first (min n len) (Nat.min_le_left _ _)
        split at hr
        · rename_i h0
          cases hr
          refine ⟨.int .i64 0, w, ?_, (VC.i _ _).e, r, .refl _ _ _⟩
          rw [h0] at hf
          simp at hf
          have h0' : Nat.min n len = 0 := h0
          simp [Builtin.copy_, ht0, run_underlying hd, hl, run_szT hs, h0', hf, goInt, storeCells]
        · rename_i h0
          cases hw : h.wr id off (new.take (min n len * esz)) with
          | none => simp [hw] at hr
          | some h2 =>
            simp [hw] at hr
            obtain ⟨rfl, rfl⟩ := hr
            have ho : o = off := g3.resolve_right (by omega)
            subst ho
            obtain ⟨h3, h4, h5⟩ := wr_sound (P := P) r hid hw (hxs.take (min n len * esz))
            refine ⟨.int .i64 (Nat.min n len : Nat), _, ?_, by simpa using (VC.i (lk := lk) (ρ := ρ) .i64 ((min n len : Nat) : Int)).e, h4, h5⟩
            have hf' : (Builtin.firstCells esz (Nat.min n len) c).run P w = .ok (xs.take (min n len * esz)).toArray w := hf
            simp [Builtin.copy_, ht0, run_underlying hd, hl, run_szT hs, hf', goInt, h3]
      · cases hr
  · cases ht
def clrK (P : Program) (ts : Array TypeId) (esz : Nat) (z : List AV) : Bool :=
  match ts.toList with
  | t :: _ =>
    match P.underlying t with
    | some (.slice e) => (match zT P e with | some zv => decide (zv.cells.size = esz) && chkZ zv z | none => false)
    | _ => false
  | _ => false
theorem aclear_sound (r : Rel lk ρ h w) {ts : Array TypeId} {ty : TypeId} {esz : Nat} {z : List AV} {u v : AV} {a : Value} {h' : AH} (ht : clrK P ts esz z = true) (hu : VE lk ρ u a)
    (hr : aclear esz z u h = some (v, h')) : ∃ y w', (Builtin.clear_ ts ty #[a]).run P w = .ok y w' ∧ VE lk ρ v y ∧ Rel lk ρ h' w' ∧ Stp ρ h w ρ h' w' := by
  unfold clrK at ht
  split at ht
  · rename_i t tr hts
    have ht0 : ts[0]? = some t := by rw [← Array.getElem?_toList, hts]; rfl
    split at ht
    · rename_i e hd
      cases hz : zT P e with
      | none => simp [hz] at ht
      | some zv =>
        simp only [hz, Bool.and_eq_true, decide_eq_true_eq] at ht
        obtain ⟨h1, h2⟩ := ht
        have hz0 : F2 (VC lk ρ) z zv.cells.toList := all2_sound (fun _ _ => chkV_sound) h2
        unfold aclear at hr
        split at hr
        · obtain rfl := hu.nils
          cases hr
          exact ⟨.tuple #[], w, by simp [Builtin.clear_, ht0, run_underlying hd], .tup trivial, r, .refl _ _ _⟩
        · rename_i id off n cap lo
          obtain ⟨b, t', o, c', hid, g0, g1, g2, g3, g4, rfl⟩ := hu.sl
          split at hr
          · rename_i h0
            cases hr
            subst h0
            exact ⟨.tuple #[], w, by simp [Builtin.clear_, ht0, run_underlying hd], .tup trivial, r, .refl _ _ _⟩
          · rename_i h0
            split at hr
            · cases hw : h.wr id off (zeros z n) with
              | none => simp [hw] at hr
              | some h2 =>
                simp [hw] at hr
                obtain ⟨rfl, rfl⟩ := hr
                have ho : o = off := g3.resolve_right (by omega)
                subst ho
                obtain ⟨m, rfl⟩ : ∃ m, n = m + 1 := ⟨n - 1, by omega⟩
                obtain ⟨h3, h4, h5⟩ := wr_sound (P := P) r hid hw (zeros_zero hz0 (m + 1))
                exact ⟨.tuple #[], _, by simp [Builtin.clear_, ht0, run_underlying hd, run_zT hz, h3], .tup trivial, h4, h5⟩
            · cases hr
        · cases hr
    · cases ht
  · cases ht
end
end Go.Proofs.Ytadbipeachcekaa.Ab
/- The operations, part six: lengths, conversions, least and greatest, functions, maps. -/
namespace Go.Proofs.Ytadbipeachcekaa.Ab
open Go
open Go.Lib (bytesCells bytesWorld bytesWorld_at_old bytesWorld_at_new bytesWorld_size)
set_option linter.unusedVariables false
section
variable {P : Program} {lk : Lk} {ρ : Rho} {h : AH} {w : World}

theorem getMap {b : Nat} {es : Array MapEntry} {cl : Nat} (hb : w.heap[b]? = some (.map es cl)) : (getObj b).run P w = .ok (.map es cl) w := by simp [getObj, Sem.run, hb]
theorem setMap {b : Nat} {es : Array MapEntry} {cl : Nat} (o : Obj) (hb : w.heap[b]? = some (.map es cl)) : (setObj b o).run P w = .ok () { w with heap := w.heap.setIfInBounds b o } := by simp [setObj, Sem.run, hb]
/-! ### lengths -/
def lenK (P : Program) (ts : Array TypeId) (k : LK) : Bool :=
  match ts.toList with
  | t :: _ =>
    match k with
    | .st => (match P.underlying t with | some .string => true | _ => false)
    | .sl => (match P.underlying t with | some (.slice _) => true | _ => false)
    | .mp => (match P.underlying t with | some (.map _ _) => true | _ => false)
  | _ => false
theorem alen_sound (r : Rel lk ρ h w) {ts : Array TypeId} {ty : TypeId} {k : LK} {u v : AV} {a : Value} (ht : lenK P ts k = true) (hu : VE lk ρ u a) (hr : alen k u h = some v) :
    ∃ x, (Builtin.len_ ts ty #[a]).run P w = .ok x w ∧ VE lk ρ v x := by
  unfold lenK at ht
  split at ht
  · rename_i t tr hts
    have ht0 : ts[0]? = some t := by rw [← Array.getElem?_toList, hts]; rfl
    unfold alen at hr
    split at hr
    · simp only at ht
      split at ht
      · rename_i hd
        obtain ⟨y, hy, rfl⟩ := hu.s
        cases hr
        have : y.size = y.data.toList.length := by simp
        exact ⟨.int .i64 y.size, by simp [Builtin.len_, ht0, run_underlying hd, goInt], by rw [← hy, ← this]; exact (VC.i _ _).e⟩
      · cases ht
    · simp only at ht
      split at ht
      · rename_i hd
        obtain rfl := hu.nils
        cases hr
        exact ⟨_, by simp [Builtin.len_, ht0, run_underlying hd, goInt], (VC.i _ _).e⟩
      · cases ht
    · simp only at ht
      split at ht
      · rename_i hd
        obtain ⟨ad, rfl⟩ := hu.es
        cases hr
        exact ⟨_, by simp [Builtin.len_, ht0, run_underlying hd, goInt], (VC.i _ _).e⟩
      · cases ht
    · simp only at ht
      split at ht
      · rename_i hd
        obtain ⟨b, t', o, c', hid, g0, g1, g2, g3, g4, rfl⟩ := hu.sl
        cases hr
        exact ⟨_, by simp [Builtin.len_, ht0, run_underlying hd, goInt], (VC.i _ _).e⟩
      · cases ht
    · simp only at ht
      split at ht
      · rename_i hd
        obtain rfl := hu.nilm
        cases hr
        exact ⟨_, by simp [Builtin.len_, ht0, run_underlying hd, goInt], (VC.i _ _).e⟩
      · cases ht
    · simp only at ht
      split at ht
      · rename_i hd
        obtain ⟨b, t', hid, rfl⟩ := hu.mp
        split at hr
        · rename_i es cl hb
          cases hr
          obtain ⟨es', h1, h2⟩ := r.map hid hb
          have hl : es.length = es'.size := by simpa using h2.length
          exact ⟨.int .i64 es'.size, by simp [Builtin.len_, ht0, run_underlying hd, goInt, getMap h1], by rw [hl]; exact (VC.i _ _).e⟩
        · cases hr
      · cases ht
    · cases hr
  · cases ht

/-! ### conversions -/
theorem toInt_sound {s d : TypeId} {k k0 : IntKind} {n : Int} {a : Value} {q : TypeDesc} (hs : P.underlying s = some q) (hd : P.underlying d = some (.int k)) (hu : VE lk ρ (.i k0 n) a) :
    (convert s d a).run P w = .ok (.int k (k.wrap n)) w := by
  obtain rfl := hu.i
  simp [convert, run_underlying hs, run_underlying hd, Conv.intToInt]
theorem same_sound {s d : TypeId} {l : List UInt8} {a : Value} {q : TypeDesc} (hs : P.underlying s = some q) (hd : P.underlying d = some .string) (hu : VE lk ρ (.s l) a) : (convert s d a).run P w = .ok a w := by
  obtain ⟨y, hy, rfl⟩ := hu.s
  simp [convert, run_underlying hs, run_underlying hd]
theorem bytesOf_nums : ∀ {cs : List AV} {xs : List Value} {l : List UInt8}, F2 (VC lk ρ) cs xs → bytesOf cs = some l → ∃ ns : List Int, xs = ns.map (Value.int .u8) ∧ l = ns.map fun n => UInt8.ofNat n.toNat
  | [], [], l, _, h => by simp [bytesOf] at h; subst h; exact ⟨[], rfl, rfl⟩
  | c :: cs, x :: xs, l, hf, h => by
    cases c with
    | i k n =>
      cases k with
      | u8 =>
        simp only [bytesOf, Option.map_eq_some_iff] at h
        obtain ⟨l', h1, rfl⟩ := h
        obtain ⟨ns, rfl, rfl⟩ := bytesOf_nums hf.2 h1
        have : x = .int .u8 n := hf.1.e.i
        subst this
        exact ⟨n :: ns, rfl, rfl⟩
      | _ => simp [bytesOf] at h
    | _ => simp [bytesOf] at h
  | [], _ :: _, _, hf, _ => hf.elim
  | _ :: _, [], _, hf, _ => hf.elim
theorem foldl_push (ns : List Int) : ∀ (s : ByteArray), (ns.foldl (fun r n => r.push (UInt8.ofNat n.toNat)) s).data.toList = s.data.toList ++ ns.map fun n => UInt8.ofNat n.toNat := by
  induction ns with
  | nil => intro s; simp
  | cons n ns ih => intro s; rw [List.foldl_cons, ih]; simp [ByteArray.push]
theorem toStr_sound (r : Rel lk ρ h w) {s d e : TypeId} {u : AV} {a : Value} {n : Nat} {cs : List AV} {l : List UInt8} (hs : P.underlying s = some (.slice e)) (he : P.underlying e = some (.int .u8)) (hd : P.underlying d = some .string)
    (hu : VE lk ρ u a) (hsh : ashow 1 u h = some (n, cs)) (hb : bytesOf cs = some l) : ∃ y, (convert s d a).run P w = .ok y w ∧ VE lk ρ (.s l) y := by
  obtain ⟨hl, xs, hn, hxs, hlen⟩ := show_sound (P := P) r hu hsh
  obtain ⟨ns, rfl, rfl⟩ := bytesOf_nums hxs hb
  unfold ashow at hsh
  split at hsh
  · cases hsh
    obtain rfl := hu.nils
    have : ns = [] := by
      have := hxs.length
      simpa using this.symm
    subst this
    exact ⟨.string .empty, by rw [run_convert_bytes_string w s d e _ _ _ hs he hd]; simp [Conv.bytesToString], (VC.s [] .empty rfl).e⟩
  · cases hsh
    obtain ⟨ad, rfl⟩ := hu.es
    have : ns = [] := by
      have := hxs.length
      simpa using this.symm
    subst this
    exact ⟨.string .empty, by rw [run_convert_bytes_string w s d e _ _ _ hs he hd]; simp [Conv.bytesToString, loadCells, loadCellsFrom], (VC.s [] .empty rfl).e⟩
  · obtain ⟨b, t', o, c', hid, g0, g1, g2, g3, g4, rfl⟩ := hu.sl
    simp only [Option.map_eq_some_iff, Prod.mk.injEq] at hsh
    obtain ⟨q, hq, rfl, rfl⟩ := hsh
    simp only [Builtin.firstCells, Nat.mul_one] at hn
    refine ⟨_, by rw [run_convert_bytes_string w s d e _ _ _ hs he hd, run_bytesToString w _ _ _ ns hn], (VC.s _ _ ?_).e⟩
    rw [foldl_push]
    rfl
  · obtain ⟨y, hy, rfl⟩ := hu.s
    split at hsh
    · rename_i l0 _
      cases hsh
      refine ⟨.string y, by simp [convert, run_underlying hs, run_underlying hd], (VC.s _ _ ?_).e⟩
      simp only [Builtin.firstCells, Sem.run_pure] at hn
      have hy2 : y = ⟨l0.toArray⟩ := by cases y; simp at hy; simp [← hy]
      rw [hy2, ByteArray.extract_mk] at hn
      have h2 := congrArg (fun r => match r with | Result.ok x _ => x.toList | _ => []) hn
      simp only [List.drop_zero, Nat.sub_zero, List.take_length] at h2
      have h3 : l0.map (fun c => Value.int .u8 (c.toNat : Int)) = ns.map (Value.int .u8) := by simpa using h2
      have h4 : l0 = ns.map fun n => UInt8.ofNat n.toNat := by
        have := congrArg (List.map fun v => match v with | Value.int _ n => UInt8.ofNat n.toNat | _ => 0) h3
        simpa [Function.comp_def] using this
      rw [hy, h4]
    · cases hsh
  · cases hsh
theorem toBytes_sound (r : Rel lk ρ h w) (f : ρ h.next = none) {s d e : TypeId} {l : List UInt8} {a : Value} {q : TypeDesc} (hs : P.underlying s = some q) (hd : P.underlying d = some (.slice e)) (he : P.underlying e = some (.int .u8)) (hu : VE lk ρ (.s l) a) :
    ∃ y w' ρ', (convert s d a).run P w = .ok y w' ∧ VE lk ρ' (.sl h.next 0 l.length l.length 1) y ∧ Rel lk ρ' (h.alloc (.row (l.map fun c => .i .u8 c.toNat) false)) w' ∧ Stp ρ h w ρ' (h.alloc (.row (l.map fun c => .i .u8 c.toNat) false)) w' := by
  obtain ⟨y, hy, rfl⟩ := hu.s
  have hsz : y.size = l.length := by rw [← hy]; simp
  have hc := grownCap_ge w y.size 0 e
  have hcs : (bytesCells w e y).size = grownCap w y.size 0 e := by
    have : y.data.size = y.size := rfl
    simp only [bytesCells, Array.size_append, Array.size_map, Array.size_replicate]
    omega
  have hn := r.drew.allocRow f (cs := l.map fun c => .i .u8 c.toNat) (cur := bytesCells w e y) (ty := e) (fz := ((bytesCells w e y).size, (bytesCells w e y).size + 1)) (by simp; omega) ⟨Nat.le_succ _, fun j hj => by simp; omega⟩ (fun j x hx => by
    rw [List.getElem?_map, Option.map_eq_some_iff] at hx
    obtain ⟨c, hc1, rfl⟩ := hx
    refine ⟨.int .u8 c.toNat, ?_, VC.i _ _⟩
    have hd1 : y.data[j]? = some c := by rw [← Array.getElem?_toList, hy]; exact hc1
    have hlt2 : j < y.data.size := (Array.getElem?_eq_some_iff.1 hd1).1
    simp only [bytesCells]
    rw [Array.getElem?_append_left (by simpa using hlt2), Array.getElem?_map, hd1]
    rfl)
  have hw : bytesWorld w e y = w.drew.alloc (.cells (bytesCells w e y) e ((bytesCells w e y).size, (bytesCells w e y).size + 1)) := by
    have hh : (bytesWorld w e y).heap = (w.drew.alloc (.cells (bytesCells w e y) e ((bytesCells w e y).size, (bytesCells w e y).size + 1))).heap := by
      apply Array.ext_getElem?
      intro j
      rcases Nat.lt_trichotomy j w.heap.size with hj | hj | hj
      · rw [bytesWorld_at_old w e y j hj, heap_alloc_lt (w := w.drew) hj]
        rfl
      · subst hj
        rw [bytesWorld_at_new]
        exact (heap_alloc_new w.drew _).symm
      · rw [Array.getElem?_eq_none (by rw [bytesWorld_size]; omega), Array.getElem?_eq_none (by simp; omega)]
    have he : bytesWorld w e y = { w.drew with heap := (bytesWorld w e y).heap } := by
      simp only [bytesWorld, World.freeze]
      split
      · rfl
      · rfl
    rw [he, hh]
    rfl
  have hconv := Go.Lib.run_convert_string_bytes (P := P) w s d e y hs hd he
  rw [hw] at hconv
  refine ⟨_, _, _, hconv, ?_, hn.1, Stp.drew_then hn.2⟩
  rw [hsz] at *
  exact (VC.sl (Rho.add_same _ _ _ _) (Nat.le_refl _) hc (fun h0 => by omega) (.inl rfl) (fun _ => by omega)).e
/-- a slice of bytes is told to be like a text: the place behind its block's end is frozen -/
theorem mark_sound (r : Rel lk ρ h w) {s e : TypeId} {id off len cap lo : Nat} {cs : List AV} {a : Value} (hs : P.underlying s = some (.slice e)) (he : P.underlying e = some (.int .u8)) (hu : VE lk ρ (.sl id off len cap lo) a) (hb : h.blk id = some (.row cs false)) :
    ∃ w', (convert s s a).run P w = .ok a w' ∧ Rel lk ρ h w' ∧ Stp ρ h w ρ h w' := by
  obtain ⟨b, t, o, c', hid, g0, g1, g2, g3, g4, rfl⟩ := hu.sl
  obtain ⟨cur, ty, fz, q1, q2, q3, q4, q5⟩ := r.row hid hb
  obtain ⟨lo', hi'⟩ := fz
  have hq := q4 rfl
  simp only at hq
  have hsh : w.shape? b = some (ty, cur.size) := by simp [World.shape?, q1]
  have hrun : (convert s s (.slice (some ⟨b, o, none⟩) len c')).run P w = .ok (.slice (some ⟨b, o, none⟩) len c') (w.freeze ⟨b, cur.size, none⟩ 1) := by
    simp [convert, run_underlying hs, run_underlying he, markStringish, hsh]
  have hh : ∀ b', (w.freeze ⟨b, cur.size, none⟩ 1).heap[b']? = if b' = b then some (.cells cur ty (if lo' == hi' then (cur.size, cur.size + 1) else (min lo' cur.size, max hi' (cur.size + 1)))) else w.heap[b']? := fun b' => by
    simp only [World.freeze, if_neg (show ¬(1 = 0) by decide), Array.getElem?_modify]
    by_cases hbb : b' = b
    · subst hbb
      simp [q1]
    · rw [if_neg hbb, if_neg (fun h => hbb h.symm)]
  have hne : ∀ {j b' t'}, ρ j = some (b', t') → h.blk j ≠ none → j ≠ id → b' ≠ b := fun hj hl hji e => hji (r.inj hj hid hl (by rw [hb]; simp) e)
  have hsz : (w.freeze ⟨b, cur.size, none⟩ 1).heap.size = w.heap.size := by
    simp [World.freeze]
  refine ⟨_, hrun, ⟨?_, ?_, r.inj, fun hi => by rw [hsz]; exact r.lt hi, r.wf⟩, ⟨fun _ _ => rfl, Nat.le_refl _, fun _ _ _ => rfl, fun _ _ h => h, fun _ _ h => h, ?_, by rw [hsz]; exact Nat.le_refl _, rfl, rfl, rfl⟩⟩
  · intro j b' t' cs' ro hj hbj
    by_cases e : j = id
    · subst e
      rw [hid] at hj
      cases hj
      refine ⟨cur, ty, _, by rw [hh, if_pos rfl], q2, by rw [hb] at hbj; cases hbj; exact q3, fun _ => ?_, by rw [hb] at hbj; cases hbj; exact q5⟩
      subst q2
      split
      · exact ⟨Nat.le_succ _, fun k hk => by simp only; omega⟩
      · rename_i hle
        have hlt : lo' < hi' := by
          have : lo' ≠ hi' := fun e => hle (by simp [e])
          omega
        have hge : cur.size ≤ lo' := by
          by_cases hc : lo' < cur.size
          · exact (hq.2 lo' hc ⟨Nat.le_refl _, hlt⟩).elim
          · omega
        exact ⟨by simp only; omega, fun k hk => by simp only; omega⟩
    · rw [hh, if_neg (hne hj (by rw [hbj]; simp) e)]
      exact r.row hj hbj
  · intro j b' t' es cl hj hbj
    have e : j ≠ id := fun e => by subst e; rw [hb] at hbj; cases hbj
    rw [hh, if_neg (hne hj (by rw [hbj]; simp) e)]
    exact r.map hj hbj
  · intro b' _ hn
    rw [hh, if_neg]
    intro e
    subst e
    exact hn ⟨id, t, _, hid, hb, fun cs => by simp⟩
theorem runeStr_sound {s d : TypeId} {k : IntKind} {n : Int} {a : Value} {q : TypeDesc} (hs : P.underlying s = some q) (hd : P.underlying d = some .string) (hb : 0 ≤ n ∧ n < 128) (hu : VE lk ρ (.i k n) a) :
    ∃ y, (convert s d a).run P w = .ok y w ∧ VE lk ρ (.s [UInt8.ofNat n.toNat]) y := by
  obtain rfl := hu.i
  refine ⟨.string (Utf8.encode n), by simp [convert, run_underlying hs, run_underlying hd, Conv.intToString], (VC.s _ _ ?_).e⟩
  have h1 : Utf8.valid n = true := by simp [Utf8.valid]; omega
  simp only [Utf8.encode, h1, if_true]
  rw [if_pos (by omega)]

/-! ### least, greatest, functions -/
theorem amins_sound : ∀ {us : List AV} {xs : List Value} {u v : AV} {a : Value}, VE lk ρ u a → F2 (VE lk ρ) us xs → amins u us = some v → ∃ x, (xs.foldlM Builtin.min2 a).run P w = .ok x w ∧ VE lk ρ v x
  | [], [], u, v, a, hu, _, hr => by simp [amins] at hr; subst hr; exact ⟨a, rfl, hu⟩
  | u2 :: us, x2 :: xs, u, v, a, hu, hf, hr => by
    unfold amins at hr
    split at hr
    · rename_i heq; cases heq
    · rename_i heq
      cases heq
      split at hr
      · rename_i hk
        subst hk
        obtain rfl := hu.i
        obtain rfl := hf.1.i
        obtain ⟨x, h1, h2⟩ := amins_sound (VC.i _ _).e hf.2 hr
        exact ⟨x, by simp only [List.foldlM_cons, Sem.run_bind, Builtin.min2, Sem.run_pure, Result.andThen_ok]; exact h1, h2⟩
      · cases hr
    · cases hr
  | [], _ :: _, _, _, _, _, hf, _ => hf.elim
  | _ :: _, [], _, _, _, _, hf, _ => hf.elim
theorem amaxs_sound : ∀ {us : List AV} {xs : List Value} {u v : AV} {a : Value}, VE lk ρ u a → F2 (VE lk ρ) us xs → amaxs u us = some v → ∃ x, (xs.foldlM Builtin.max2 a).run P w = .ok x w ∧ VE lk ρ v x
  | [], [], u, v, a, hu, _, hr => by simp [amaxs] at hr; subst hr; exact ⟨a, rfl, hu⟩
  | u2 :: us, x2 :: xs, u, v, a, hu, hf, hr => by
    unfold amaxs at hr
    split at hr
    · rename_i heq; cases heq
    · rename_i heq
      cases heq
      split at hr
      · rename_i hk
        subst hk
        obtain rfl := hu.i
        obtain rfl := hf.1.i
        obtain ⟨x, h1, h2⟩ := amaxs_sound (VC.i _ _).e hf.2 hr
        exact ⟨x, by simp only [List.foldlM_cons, Sem.run_bind, Builtin.max2, Sem.run_pure, Result.andThen_ok]; exact h1, h2⟩
      · cases hr
    · cases hr
  | [], _ :: _, _, _, _, _, hf, _ => hf.elim
  | _ :: _, [], _, _, _, _, hf, _ => hf.elim
theorem ptrs_sound : ∀ {us : List AV} {xs : List Value} {ps : List (Nat × Nat)}, F2 (VE lk ρ) us xs → ptrs us = some ps → F2 (PR ρ) ps xs
  | [], [], ps, _, hr => by simp [ptrs] at hr; subst hr; trivial
  | u :: us, x :: xs, ps, hf, hr => by
    unfold ptrs at hr
    split at hr
    · rename_i heq; cases heq
    · rename_i heq
      cases heq
      simp only [Option.map_eq_some_iff] at hr
      obtain ⟨ps', h1, rfl⟩ := hr
      obtain ⟨b, t, h2, rfl⟩ := hf.1.ptr
      exact ⟨⟨b, t, h2, rfl⟩, ptrs_sound hf.2 h1⟩
    · cases hr
  | [], _ :: _, _, hf, _ => hf.elim
  | _ :: _, [], _, hf, _ => hf.elim
end
end Go.Proofs.Ytadbipeachcekaa.Ab
/- The operations, part seven: maps. -/
namespace Go.Proofs.Ytadbipeachcekaa.Ab
open Go
set_option linter.unusedVariables false
section
variable {P : Program} {lk : Lk} {ρ : Rho} {h : AH} {w : World}

/-- a key that fits its kind: the model's look at it passes -/
theorem conf1_scalar {k : SK} {u : AV} {x : Value} {t : TypeId} (ht : skT P t k = true) (hc : conf1 k u = true) (hu : VC lk ρ u x) (em : Bool) (n : Nat) : (Instr.checkKey em (n + 1) t x).run P w = .ok () w := by
  unfold skT at ht
  cases hd : P.underlying t with
  | none => simp [hd] at ht
  | some d =>
    cases d <;> cases k <;> simp [hd] at ht <;> cases u <;> simp [conf1] at hc <;> cases hu <;> simp [Instr.checkKey, run_underlying hd]
theorem checkItems {e : TypeId} {em : Bool} {n : Nat} {xs : Array Value} : ∀ {ks : List SK} {o : Nat} {us : List AV}, ks.all (skT P e) = true → confs ks us = true → F2 (VC lk ρ) us (xs.toList.drop o) → P.cellsOf e = 1 → (P.info? e).isSome = true →
    (forIn (List.range' o ks.length) PUnit.unit fun i r => (do Instr.checkKey em (n + 1) e (← part e xs (i * (← sizeOf e))); pure (ForInStep.yield PUnit.unit) : Sem (ForInStep PUnit))).run P w = .ok PUnit.unit w
  | [], o, us, _, _, _, _, _ => by simp
  | k :: ks, o, us, hk, hc, hu, he, hi => by
    cases us with
    | nil => simp [confs] at hc
    | cons u us =>
      simp only [List.all_cons, Bool.and_eq_true] at hk
      simp only [confs, Bool.and_eq_true] at hc
      obtain ⟨x, xs', hx, hux, hus⟩ := hu.head
      have hx0 : xs[o * 1]? = some x := by
        have := congrArg (fun l => l[0]?) hx
        simpa [List.getElem?_drop] using this
      have hx1 : xs.toList.drop (o + 1) = xs' := by rw [← List.drop_drop, hx]; rfl
      obtain ⟨i0, hi0⟩ := Option.isSome_iff_exists.1 hi
      have hs : (sizeOf e).run P w = .ok 1 w := by rw [run_sizeOf w hi0, he]
      simp only [List.length_cons, List.range'_succ, List.forIn_cons, Sem.run_bind, hs, Result.andThen_ok, run_part_scalar hk.1 hx0, conf1_scalar hk.1 hc.1 hux, Sem.run_pure]
      exact checkItems hk.2 hc.2 (by rw [hx1]; exact hus) he hi
theorem check_array {kt e : TypeId} {n m : Nat} {em : Bool} {xs : Array Value} {us : List AV} {ks : List SK} (hd : P.underlying kt = some (.array n e)) (h1 : ks.length = n) (h2 : ks.all (skT P e) = true) (h3 : P.cellsOf e = 1) (h4 : (P.info? e).isSome = true)
    (hc : confs ks us = true) (hu : F2 (VC lk ρ) us xs.toList) : (Instr.checkKey em (m + 2) kt (.agg xs)).run P w = .ok () w := by
  have := checkItems (P := P) (w := w) (em := em) (n := m) (o := 0) h2 hc (by simpa using hu) h3 h4
  rw [Instr.checkKey]
  simp only [Sem.run_bind, run_underlying hd, Result.andThen_ok]
  simp only [Std.Legacy.Range.forIn_eq_forIn_range', Std.Legacy.Range.size, Nat.sub_zero, Nat.add_one_sub_one, Nat.div_one]
  rw [← h1, this]
  rfl
def keyT (P : Program) (kt : TypeId) : KK → Bool
  | .sc k => skT P kt k
  | .ar ks => (match P.underlying kt with | some (.array _ _) => true | _ => false) && eqK P kt (.ag ks)
theorem conf1_VC {k : SK} {u : AV} {x : Value} (hc : conf1 k u = true) (hu : VE lk ρ u x) : VC lk ρ u x := by
  cases u <;> cases k <;> simp [conf1] at hc
  · obtain rfl := hu.b; exact .b _
  · obtain rfl := hu.i; exact .i _ _
  · obtain ⟨y, hy, rfl⟩ := hu.s; exact .s _ _ hy
theorem check_sound {kt : TypeId} {kk : KK} {u : AV} {x : Value} (ht : keyT P kt kk = true) (hc : kok kk u = true) (hu : VE lk ρ u x) (em : Bool) : (Instr.checkKey em 10000 kt x).run P w = .ok () w := by
  cases kk with
  | sc k => exact conf1_scalar ht hc (conf1_VC hc hu) em 9999
  | ar ks =>
    simp only [keyT, Bool.and_eq_true] at ht
    obtain ⟨h0, ht⟩ := ht
    cases u with
    | agg a =>
      obtain ⟨xs, hxs, rfl⟩ := hu.agg
      cases hd : P.underlying kt with
      | none => simp [hd] at h0
      | some d =>
        cases d with
        | array n e =>
          simp only [eqK, hd, Bool.and_eq_true, decide_eq_true_eq] at ht
          obtain ⟨_, ⟨⟨h1, h2⟩, h3⟩, h4⟩ := ht
          exact check_array (m := 9998) hd h1 h2 h3 h4 hc hxs
        | _ => simp [hd] at h0
    | _ => simp [kok] at hc
theorem sameNow_sound {t : TypeId} {d : TypeDesc} {k : SK} {u v : AV} {a b : Value} {r : Bool} (hd : P.underlying t = some d) (ht : skT P t k = true) (hu : VE lk ρ u a) (hv : VE lk ρ v b) (hr : sceq k u v = some r) : Instr.sameNow d a b = some r := by
  unfold skT at ht
  rw [hd] at ht
  unfold sceq at hr
  split at hr
  · obtain rfl := hu.b; obtain rfl := hv.b
    cases d <;> simp at ht
    cases hr; rfl
  · split at hr
    · rename_i e
      subst e
      obtain rfl := hu.i; obtain rfl := hv.i
      cases d <;> simp at ht
      cases hr; simp only [Instr.sameNow, if_true]; rfl
    · cases hr
  · obtain ⟨y1, rfl, rfl⟩ := hu.s
    obtain ⟨y2, rfl, rfl⟩ := hv.s
    cases d <;> simp at ht
    cases hr
    simp only [Instr.sameNow, beq_toListBytes, ByteArray.toList_eq, beqd]
  · cases hr
theorem find_now {t : TypeId} {d : TypeDesc} {k : SK} {u : AV} {a : Value} (hd : P.underlying t = some d) (ht : skT P t k = true) (hu : VE lk ρ u a) : ∀ {es : List (AV × AV × Nat)} {xs : List MapEntry} {j : Nat} {res : Option (Nat × AV × Nat)},
    F2 (ME lk ρ) es xs → kfind (.sc k) u es j = some res →
    (res = none ∧ Instr.findNow d a xs j = some none) ∨ ∃ i v n x, res = some (j + i, v, n) ∧ es[i]? = some (x, v, n) ∧ ∃ y, xs[i]? = some y ∧ Instr.findNow d a xs j = some (some (j + i, y.val)) ∧ keyq (.sc k) u x = some true
  | [], [], j, res, _, hr => by simp [kfind] at hr; subst hr; exact .inl ⟨rfl, rfl⟩
  | (x, v, n) :: es, y :: xs, j, res, hf, hr => by
    simp only [kfind] at hr
    cases hq : keyq (.sc k) u x with
    | none => simp [hq] at hr
    | some q =>
      have hs := sameNow_sound hd ht hu hf.1.1.e hq
      cases q with
      | true =>
        simp [hq] at hr
        subst hr
        exact .inr ⟨0, v, n, x, rfl, rfl, y, rfl, by simp [Instr.findNow, hs], hq⟩
      | false =>
        simp only [hq] at hr
        rcases find_now hd ht hu hf.2 hr with ⟨h1, h2⟩ | ⟨i, v', n', x', h1, h2, y', h3, h4, h5⟩
        · exact .inl ⟨h1, by simp [Instr.findNow, hs, h2]⟩
        · exact .inr ⟨i + 1, v', n', x', by rw [h1, Nat.add_assoc, Nat.add_comm 1 i], by simpa using h2, y', by simpa using h3, by simp only [Instr.findNow, hs, h4]; rw [Nat.add_assoc, Nat.add_comm 1 i], h5⟩
  | [], _ :: _, _, _, hf, _ => hf.elim
  | _ :: _, [], _, _, hf, _ => hf.elim
theorem find_asking {t : TypeId} {ks : List SK} {us : List AV} {as : Array Value} (ht : eqK P t (.ag ks) = true) (hu : F2 (VC lk ρ) us as.toList) : ∀ {es : List (AV × AV × Nat)} {xs : List MapEntry} {j : Nat} {res : Option (Nat × AV × Nat)},
    F2 (ME lk ρ) es xs → kfind (.ar ks) (.agg us) es j = some res →
    (res = none ∧ (Instr.findAsking t (.agg as) xs j).run P w = .ok none w) ∨ ∃ i v n x, res = some (j + i, v, n) ∧ es[i]? = some (x, v, n) ∧ ∃ y, xs[i]? = some y ∧ (Instr.findAsking t (.agg as) xs j).run P w = .ok (some (j + i, y.val)) w ∧ keyq (.ar ks) (.agg us) x = some true
  | [], [], j, res, _, hr => by simp [kfind] at hr; subst hr; exact .inl ⟨rfl, rfl⟩
  | (x, v, n) :: es, y :: xs, j, res, hf, hr => by
    simp only [kfind] at hr
    cases hq : keyq (.ar ks) (.agg us) x with
    | none => simp [hq] at hr
    | some q =>
      have hs : (Op.equal t (.agg as) y.key).run P w = .ok q w := by
        cases x with
        | agg bs =>
          obtain ⟨zs, hzs, hk⟩ := hf.1.1.e.agg
          rw [hk]
          exact aeqs_sound (d := 9998) ht hu hzs hq
        | _ => simp [keyq] at hq
      cases q with
      | true =>
        simp [hq] at hr
        subst hr
        exact .inr ⟨0, v, n, x, rfl, rfl, y, rfl, by simp [Instr.findAsking, hs], hq⟩
      | false =>
        simp only [hq] at hr
        rcases find_asking ht hu hf.2 hr with ⟨h1, h2⟩ | ⟨i, v', n', x', h1, h2, y', h3, h4, h5⟩
        · exact .inl ⟨h1, by simp [Instr.findAsking, hs, h2]⟩
        · exact .inr ⟨i + 1, v', n', x', by rw [h1, Nat.add_assoc, Nat.add_comm 1 i], by simpa using h2, y', by simpa using h3, by simp only [Instr.findAsking, Sem.run_bind, hs, Result.andThen_ok, Bool.false_eq_true, if_false, h4]; rw [Nat.add_assoc, Nat.add_comm 1 i], h5⟩
  | [], _ :: _, _, _, hf, _ => hf.elim
  | _ :: _, [], _, _, hf, _ => hf.elim
theorem find_sound {t : TypeId} {kk : KK} {u : AV} {a : Value} (ht : keyT P t kk = true) (hok : kok kk u = true) (hu : VE lk ρ u a) {es : List (AV × AV × Nat)} {xs : List MapEntry} {res : Option (Nat × AV × Nat)} (hf : F2 (ME lk ρ) es xs) (hr : kfind kk u es 0 = some res) :
    (res = none ∧ (Instr.findKey t a xs).run P w = .ok none w) ∨ ∃ i v n x, res = some (i, v, n) ∧ es[i]? = some (x, v, n) ∧ ∃ y, xs[i]? = some y ∧ (Instr.findKey t a xs).run P w = .ok (some (i, y.val)) w ∧ keyq kk u x = some true := by
  cases kk with
  | sc k =>
    have ht' : skT P t k = true := ht
    cases hd : P.underlying t with
    | none => simp [skT, hd] at ht'
    | some d =>
      rcases find_now hd ht' hu hf hr with ⟨h1, h2⟩ | ⟨i, v', n', x', h1, h2, y', h3, h4, h5⟩
      · exact .inl ⟨h1, by simp [Instr.findKey, run_underlying hd, h2]⟩
      · refine .inr ⟨i, v', n', x', by simpa using h1, h2, y', h3, ?_, h5⟩
        simp [Instr.findKey, run_underlying hd, h4]
  | ar ks =>
    simp only [keyT, Bool.and_eq_true] at ht
    obtain ⟨h0, ht⟩ := ht
    cases u with
    | agg us =>
      obtain ⟨as, has, rfl⟩ := hu.agg
      have hw : (match P.underlying t with | some (.array _ _) | some (.struct _) => true | _ => false) = true := by
        cases hd : P.underlying t with
        | none => simp [hd] at h0
        | some d => cases d <;> simp_all
      rw [run_findKey_eq w hw]
      rcases find_asking (w := w) ht has hf hr with ⟨h1, h2⟩ | ⟨i, v', n', x', h1, h2, y', h3, h4, h5⟩
      · exact .inl ⟨h1, h2⟩
      · exact .inr ⟨i, v', n', x', by simpa using h1, h2, y', h3, by simpa using h4, h5⟩
    | _ => simp [kok] at hok
/-- keys that are found are alike bit by bit -/
theorem sceq_bits {k : SK} {u v : AV} {a b : Value} {n : Nat} (hu : VE lk ρ u a) (hv : VE lk ρ v b) (hr : sceq k u v = some true) : Instr.sameBits n b a = true := by
  unfold sceq at hr
  split at hr
  · obtain rfl := hu.b; obtain rfl := hv.b; simp at hr; subst hr; simp [Instr.sameBits]
  · split at hr
    · rename_i e
      subst e
      obtain rfl := hu.i; obtain rfl := hv.i; simp at hr; subst hr; simp [Instr.sameBits]
    · cases hr
  · obtain ⟨y1, rfl, rfl⟩ := hu.s
    obtain ⟨y2, h2, rfl⟩ := hv.s
    simp only [Option.some.injEq, decide_eq_true_eq] at hr
    have : y1 = y2 := by
      have h3 : y1.data.toList = y2.data.toList := by rw [hr, h2]
      have h4 := Array.toList_inj.1 h3
      cases y1; cases y2; simp at h4; rw [h4]
    subst this
    simp [Instr.sameBits, beq_toListBytes]
  · cases hr
theorem aeqs_bits {n : Nat} : ∀ {ks : List SK} {us vs : List AV} {as bs : List Value}, F2 (VC lk ρ) us as → F2 (VC lk ρ) vs bs → aeqs ks us vs = some true → as.length = bs.length ∧ ((bs.zip as).all fun (x, y) => Instr.sameBits n x y) = true
  | [], [], [], [], [], _, _, _ => ⟨rfl, rfl⟩
  | k :: ks, u :: us, v :: vs, a :: as, b :: bs, hu, hv, hr => by
    simp only [aeqs] at hr
    cases hs : sceq k u v with
    | none => simp [hs] at hr
    | some q =>
      cases q with
      | false => simp [hs] at hr
      | true =>
        simp only [hs] at hr
        obtain ⟨h1, h2⟩ := aeqs_bits (n := n) hu.2 hv.2 hr
        exact ⟨by simp [h1], by simp only [List.zip_cons_cons, List.all_cons, Bool.and_eq_true]; exact ⟨sceq_bits hu.1.e hv.1.e hs, h2⟩⟩
  | [], _ :: _, _, _, _, _, _, hr => by simp [aeqs] at hr
  | [], [], _ :: _, _, _, _, _, hr => by simp [aeqs] at hr
  | _ :: _, [], _, _, _, _, _, hr => by simp [aeqs] at hr
  | _ :: _, _ :: _, [], _, _, _, _, hr => by simp [aeqs] at hr
  | _, [], _, _ :: _, _, hu, _, _ => hu.elim
  | _, _ :: _, _, [], _, hu, _, _ => hu.elim
  | _, _, [], _, _ :: _, _, hv, _ => hv.elim
  | _, _, _ :: _, _, [], _, hv, _ => hv.elim
theorem keeps_sound {kk : KK} {u v : AV} {a b : Value} (hu : VE lk ρ u a) (hv : VR lk ρ v b) (hr : keyq kk u v = some true) : (Instr.keyThatStays b a).run P w = .ok a w := by
  have : Instr.sameBits (9999 + 1) b a = true := by
    unfold keyq at hr
    split at hr
    · exact sceq_bits hu hv.e hr
    · obtain ⟨as, has, rfl⟩ := hu.agg
      obtain ⟨bs, hbs, rfl⟩ := hv.e.agg
      obtain ⟨h1, h2⟩ := aeqs_bits (n := 9999) has hbs hr
      simp only [Instr.sameBits, Bool.and_eq_true, beq_iff_eq]
      exact ⟨by simpa using h1.symm, h2⟩
    · cases hr
  have h : Instr.sameBits 10000 b a = true := this
  simp [Instr.keyThatStays, h]
end
end Go.Proofs.Ytadbipeachcekaa.Ab
/- The operations, part eight: what is done with maps. -/
namespace Go.Proofs.Ytadbipeachcekaa.Ab
open Go
set_option linter.unusedVariables false
section
variable {P : Program} {lk : Lk} {ρ : Rho} {h : AH} {w : World}

def mapK (P : Program) (t : TypeId) (kk : KK) : Bool :=
  match P.underlying t with
  | some (.map k _) => keyT P k kk
  | _ => false
theorem mapK_spec {t : TypeId} {kk : KK} (h : mapK P t kk = true) : ∃ k e, P.underlying t = some (.map k e) ∧ keyT P k kk = true := by
  unfold mapK at h
  split at h
  · exact ⟨_, _, by assumption, h⟩
  · cases h
def lkpK (P : Program) (t : TypeId) (kk : KK) (z : AV) : Bool :=
  match P.underlying t with
  | some (.map k e) => keyT P k kk && (match zT P e with | some zv => chkZV zv z | none => false)
  | _ => false
theorem mapof_sound (r : Rel lk ρ h w) {u : AV} {a : Value} {id cl : Nat} {es : List (AV × AV × Nat)} (hu : VE lk ρ u a) (hm : amapof u h = some (id, es, cl)) :
    ∃ b t, ∃ es' : Array MapEntry, ρ id = some (b, t) ∧ h.blk id = some (.map es cl) ∧ a = .map (some b) ∧ w.heap[b]? = some (.map es' cl) ∧ F2 (ME lk ρ) es es'.toList := by
  unfold amapof at hm
  split at hm
  · obtain ⟨b, t, hid, rfl⟩ := hu.mp
    split at hm
    · rename_i hb
      cases hm
      obtain ⟨es', h1, h2⟩ := r.map hid hb
      exact ⟨b, t, es', hid, hb, rfl, h1, h2⟩
    · cases hm
  · cases hm
theorem F2.get' {α β : Type} {R : α → β → Prop} {xs : List α} {ys : List β} (h : F2 R xs ys) {j : Nat} {x : α} {y : β} (hx : xs[j]? = some x) (hy : ys[j]? = some y) : R x y := by
  obtain ⟨z, h1, h2⟩ := h.get hx
  rw [hy] at h1
  cases h1
  exact h2
theorem alookup_sound (r : Rel lk ρ h w) {t : TypeId} {kk : KK} {z m k v : AV} {ok : Bool} {a c : Value} {h' : AH} (ht : lkpK P t kk z = true) (hu : VE lk ρ m a) (hk : VE lk ρ k c) (hr : alookup kk z ok m k h = some (v, h')) :
    ∃ x, (Instr.lookup t a c ok).run P w = .ok x w ∧ VE lk ρ v x ∧ h' = h := by
  unfold lkpK at ht
  split at ht
  · rename_i kt et hd
    simp only [Bool.and_eq_true] at ht
    obtain ⟨hkt, hz⟩ := ht
    cases hzt : zT P et with
    | none => simp [hzt] at hz
    | some zv =>
      simp only [hzt] at hz
      have hzr : VR lk ρ z zv := chkZV_sound hz
      have vo : ∀ {u : AV} {x : Value}, VR lk ρ u x → ∀ b : Bool, VE lk ρ (if ok then .tup [u, .b b] else u) (if ok then .tuple #[x, .bool b] else x) := fun hu b => by
        cases ok
        · exact hu.e
        · exact .tup ⟨.one hu, .one (.cell (.b _)), trivial⟩
      unfold alookup at hr
      split at hr
      · obtain rfl := hu.nilm
        split at hr
        · rename_i hok
          cases hr
          refine ⟨_, ?_, vo hzr false, rfl⟩
          have hc := check_sound (P := P) (w := w) hkt hok hk true
          have hf : (Instr.findKey kt c []).run P w = .ok none w := by
            rcases find_sound (P := P) (w := w) (es := []) (xs := []) hkt hok hk trivial rfl with ⟨_, h2⟩ | ⟨i, v, n, x, h1, _⟩
            · exact h2
            · cases h1
          simp [Instr.lookup, run_underlying hd, hc, hf, run_zT hzt]
        · cases hr
      · split at hr
        · cases hr
        · rename_i id es cl hm
          obtain ⟨b, t', es', hid, hb, rfl, h1, h2⟩ := mapof_sound r hu hm
          split at hr
          · cases hr
          · rename_i hf0
            split at hf0
            · rename_i hok
              cases hr
              have hc := check_sound (P := P) (w := w) hkt hok hk es'.isEmpty
              rcases find_sound (P := P) (w := w) hkt hok hk h2 hf0 with ⟨_, h3⟩ | ⟨i, v, n, x, h3, _⟩
              · refine ⟨_, ?_, vo hzr false, rfl⟩
                simp [Instr.lookup, run_underlying hd, getMap h1, hc, h3, run_zT hzt]
              · cases h3
            · cases hf0
          · rename_i i v n hf0
            split at hf0
            · rename_i hok
              cases hr
              have hc := check_sound (P := P) (w := w) hkt hok hk es'.isEmpty
              rcases find_sound (P := P) (w := w) hkt hok hk h2 hf0 with ⟨h3, _⟩ | ⟨i', v', n', x, h3, h4, y, h5, h6, h7⟩
              · cases h3
              · cases h3
                refine ⟨_, ?_, vo (h2.get' h4 h5).2.1 true, rfl⟩
                simp [Instr.lookup, run_underlying hd, getMap h1, hc, h6]
            · cases hf0
  · cases ht
theorem F2.modify {es : List (AV × AV × Nat)} {xs : Array MapEntry} (hf : F2 (ME lk ρ) es xs.toList) {i : Nat} {e : AV × AV × Nat} {g : MapEntry → MapEntry} (hg : ∀ y, xs[i]? = some y → ME lk ρ e (g y)) : F2 (ME lk ρ) (es.set i e) (xs.modify i g).toList := by
  refine F2.of_get (by have := hf.length; simp at this; simp [this]) fun j a b ha hb => ?_
  rw [Array.getElem?_toList, Array.getElem?_modify] at hb
  rw [List.getElem?_set] at ha
  split at ha
  · rename_i e1
    subst e1
    split at ha
    · cases ha
      rw [if_pos rfl] at hb
      simp only [Option.map_eq_some_iff] at hb
      obtain ⟨y, h1, rfl⟩ := hb
      exact hg y h1
    · cases ha
  · rename_i e1
    rw [if_neg e1] at hb
    exact hf.get' ha (by simpa using hb)
theorem amapput_sound (r : Rel lk ρ h w) {t : TypeId} {kk : KK} {m k u v : AV} {a c d : Value} {h' : AH} (ht : mapK P t kk = true) (hm : VE lk ρ m a) (hk : VE lk ρ k c) (hu : VE lk ρ u d) (hkr : VR lk ρ k c) (hur : VR lk ρ u d)
    (hr : amapput kk m k u h = some (v, h')) : ∃ w', (Instr.mapUpdate t a c d).run P w = .ok () w' ∧ v = .tup [] ∧ Rel lk ρ h' w' ∧ Stp ρ h w ρ h' w' := by
  obtain ⟨kt, et, hd, hkt⟩ := mapK_spec ht
  unfold amapput at hr
  split at hr
  · cases hr
  · rename_i id es cl hmo
    obtain ⟨b, t', es', hid, hb, rfl, h1, h2⟩ := mapof_sound r hm hmo
    split at hr
    · cases hr
    · rename_i hf0
      split at hf0
      · rename_i hok
        cases hr
        have hc := check_sound (P := P) (w := w) hkt hok hk false
        rcases find_sound (P := P) (w := w) hkt hok hk h2 hf0 with ⟨_, h3⟩ | ⟨i, v, n, x, h3, _⟩
        · have hs := r.setMap hid hb (es' := es ++ [(k, u, cl)]) (cl' := cl + 1) (xs := es'.push { key := c, val := d, born := cl }) (by
            rw [Array.toList_push]
            exact h2.append ⟨⟨hkr, hur, rfl⟩, trivial⟩)
          exact ⟨_, by simp [Instr.mapUpdate, run_underlying hd, getMap h1, hc, h3, setMap _ h1], rfl, hs.1, hs.2⟩
        · cases h3
      · cases hf0
    · rename_i i v0 n hf0
      split at hf0
      · rename_i hok
        cases hr
        have hc := check_sound (P := P) (w := w) hkt hok hk false
        rcases find_sound (P := P) (w := w) hkt hok hk h2 hf0 with ⟨h3, _⟩ | ⟨i', v', n', x, h3, h4, y, h5, h6, h7⟩
        · cases h3
        · cases h3
          have hy := h2.get' h4 h5
          have hks := keeps_sound (P := P) (w := w) hk hy.1 h7
          have hya : es'[i]? = some y := by simpa using h5
          have hs := r.setMap hid hb (es' := es.set i (k, u, n)) (cl' := cl) (xs := es'.modify i fun e => { e with key := c, val := d }) (h2.modify fun q hq => by
            rw [hya] at hq
            cases hq
            exact ⟨hkr, hur, hy.2.2⟩)
          refine ⟨_, ?_, rfl, hs.1, hs.2⟩
          simp [Instr.mapUpdate, run_underlying hd, getMap h1, hc, h6, hya, hks, setMap _ h1]
      · cases hf0
theorem amapent_sound (r : Rel lk ρ h w) {t : TypeId} {kk : KK} {z m k v : AV} {a c : Value} {h' : AH} (ht : lkpK P t kk z = true) (hm : VE lk ρ m a) (hk : VE lk ρ k c) (hkr : VR lk ρ k c)
    (hr : amapent kk z m k h = some (v, h')) : ∃ x w', (Instr.mapEntry t a c).run P w = .ok x w' ∧ VE lk ρ v x ∧ Rel lk ρ h' w' ∧ Stp ρ h w ρ h' w' := by
  unfold lkpK at ht
  split at ht
  · rename_i kt et hd
    simp only [Bool.and_eq_true] at ht
    obtain ⟨hkt, hz⟩ := ht
    cases hzt : zT P et with
    | none => simp [hzt] at hz
    | some zv =>
      simp only [hzt] at hz
      have hzr : VR lk ρ z zv := chkZV_sound hz
      unfold amapent at hr
      split at hr
      · cases hr
      · rename_i id es cl hmo
        obtain ⟨b, t', es', hid, hb, rfl, h1, h2⟩ := mapof_sound r hm hmo
        split at hr
        · cases hr
        · rename_i hf0
          split at hf0
          · rename_i hok
            cases hr
            have hc := check_sound (P := P) (w := w) hkt hok hk false
            rcases find_sound (P := P) (w := w) hkt hok hk h2 hf0 with ⟨_, h3⟩ | ⟨i, v, n, x, h3, _⟩
            · have hs := r.setMap hid hb (es' := es ++ [(k, z, cl)]) (cl' := cl + 1) (xs := es'.push { key := c, val := zv, born := cl }) (by
                rw [Array.toList_push]
                exact h2.append ⟨⟨hkr, hzr, rfl⟩, trivial⟩)
              refine ⟨.tuple #[zv, goInt cl], _, ?_, .tup ⟨.one hzr, .one (.cell (.i _ _)), trivial⟩, hs.1, hs.2⟩
              simp [Instr.mapEntry, run_underlying hd, getMap h1, hc, h3, run_zT hzt, setMap _ h1]
            · cases h3
          · cases hf0
        · rename_i i v0 n hf0
          split at hf0
          · rename_i hok
            cases hr
            have hc := check_sound (P := P) (w := w) hkt hok hk false
            rcases find_sound (P := P) (w := w) hkt hok hk h2 hf0 with ⟨h3, _⟩ | ⟨i', v', n', x, h3, h4, y, h5, h6, h7⟩
            · cases h3
            · cases h3
              have hy := h2.get' h4 h5
              have hks := keeps_sound (P := P) (w := w) hk hy.1 h7
              have hya : es'[i]? = some y := by simpa using h5
              have hs := r.setMap hid hb (es' := es.set i (k, v0, n)) (cl' := cl) (xs := es'.modify i fun e => { e with key := c }) (h2.modify fun q hq => by
                rw [hya] at hq
                cases hq
                exact ⟨hkr, hy.2.1, hy.2.2⟩)
              have hn : n = y.born := hy.2.2
              refine ⟨.tuple #[y.val, goInt y.born], _, ?_, .tup ⟨.one hy.2.1, .one (.cell (by rw [hn]; exact .i _ _)), trivial⟩, hs.1, hs.2⟩
              simp [Instr.mapEntry, run_underlying hd, getMap h1, hc, h6, hya, hks, setMap _ h1]
          · cases hf0
  · cases ht
theorem bfind_sound {born : Int} : ∀ {es : List (AV × AV × Nat)} {xs : List MapEntry} {j i n : Nat} {k : AV}, F2 (ME lk ρ) es xs → bfind born es j = some (i, k, n) →
    ∃ q v, i = j + q ∧ es[q]? = some (k, v, n) ∧ xs.findIdx? (fun e => (e.born : Int) == born) = some q
  | [], [], _, _, _, _, _, hr => by simp [bfind] at hr
  | (k0, v0, n0) :: es, y :: xs, j, i, n, k, hf, hr => by
    simp only [bfind] at hr
    have hb : n0 = y.born := hf.1.2.2
    split at hr
    · rename_i e
      cases hr
      exact ⟨0, v0, rfl, rfl, by simp [List.findIdx?_cons, ← hb, e]⟩
    · rename_i e
      obtain ⟨q, v, h1, h2, h3⟩ := bfind_sound hf.2 hr
      refine ⟨q + 1, v, by omega, by simpa using h2, ?_⟩
      have : ¬ ((y.born : Int) == born) = true := by rw [← hb]; simpa using e
      simp [List.findIdx?_cons, this, h3]
  | [], _ :: _, _, _, _, _, hf, _ => hf.elim
  | _ :: _, [], _, _, _, _, hf, _ => hf.elim
theorem amapst_sound (r : Rel lk ρ h w) {t : TypeId} {m s u v : AV} {a c d : Value} {h' : AH} (hm : VE lk ρ m a) (hk : VE lk ρ s c) (hu : VE lk ρ u d) (hur : VR lk ρ u d)
    (hr : amapst m s u h = some (v, h')) : ∃ w', (Instr.entryStore t a c d).run P w = .ok () w' ∧ v = .tup [] ∧ Rel lk ρ h' w' ∧ Stp ρ h w ρ h' w' := by
  unfold amapst at hr
  split at hr
  · rename_i id es cl kk born hmo
    obtain ⟨b, t', es', hid, hb, rfl, h1, h2⟩ := mapof_sound r hm hmo
    obtain rfl := hk.i
    split at hr
    · cases hr
    · rename_i i k0 n hf
      cases hr
      obtain ⟨q, v0, h3, h4, h5⟩ := bfind_sound h2 hf
      have hi : i = q := by omega
      subst hi
      obtain ⟨y, h6, hy⟩ := h2.get h4
      have hya : es'[i]? = some y := by simpa using h6
      have hs := r.setMap hid hb (es' := es.set i (k0, u, n)) (cl' := cl) (xs := es'.modify i fun e => { e with val := d }) (h2.modify fun q hq => by
        rw [hya] at hq
        cases hq
        exact ⟨hy.1, hur, hy.2.2⟩)
      have h5' : es'.findIdx? (fun e => (e.born : Int) == born) = some i := by
        have e : es' = es'.toList.toArray := by simp
        rw [e, List.findIdx?_toArray]
        exact h5
      exact ⟨_, by simp [Instr.entryStore, getMap h1, asInt, asIntOf, h5', setMap _ h1], rfl, hs.1, hs.2⟩
  · cases hr
def delK (P : Program) (ts : Array TypeId) (kk : KK) : Bool :=
  match ts.toList with
  | t :: _ => mapK P t kk
  | _ => false
theorem adel_sound (r : Rel lk ρ h w) {ts : Array TypeId} {ty : TypeId} {kk : KK} {m k v : AV} {a c : Value} {h' : AH} (ht : delK P ts kk = true) (hm : VE lk ρ m a) (hk : VE lk ρ k c)
    (hr : adel kk m k h = some (v, h')) : ∃ x w', (Builtin.delete_ ts ty #[a, c]).run P w = .ok x w' ∧ VE lk ρ v x ∧ Rel lk ρ h' w' ∧ Stp ρ h w ρ h' w' := by
  unfold delK at ht
  split at ht
  · rename_i t tr hts
    have ht0 : ts[0]? = some t := by rw [← Array.getElem?_toList, hts]; rfl
    obtain ⟨kt, et, hd, hkt⟩ := mapK_spec ht
    unfold adel at hr
    split at hr
    · obtain rfl := hm.nilm
      split at hr
      · rename_i hok
        cases hr
        have hc := check_sound (P := P) (w := w) hkt hok hk true
        exact ⟨.tuple #[], w, by simp [Builtin.delete_, ht0, run_underlying hd, hc], .tup trivial, r, .refl _ _ _⟩
      · cases hr
    · split at hr
      · cases hr
      · rename_i id es cl hmo
        obtain ⟨b, t', es', hid, hb, rfl, h1, h2⟩ := mapof_sound r hm hmo
        split at hr
        · cases hr
        · rename_i hf0
          split at hf0
          · rename_i hok
            cases hr
            have hc := check_sound (P := P) (w := w) hkt hok hk es'.isEmpty
            rcases find_sound (P := P) (w := w) hkt hok hk h2 hf0 with ⟨_, h3⟩ | ⟨i, v, n, x, h3, _⟩
            · have hw : ({ w with heap := w.heap.setIfInBounds b (.map es' cl) } : World) = w := by
                have : w.heap.setIfInBounds b (.map es' cl) = w.heap := by
                  apply Array.ext_getElem?
                  intro j
                  by_cases e : b = j
                  · subst e
                    have hlt := (Array.getElem?_eq_some_iff.1 h1).1
                    simp only [Array.getElem?_setIfInBounds_self, hlt, if_true]
                    exact h1.symm
                  · rw [Array.getElem?_setIfInBounds_ne e]
                rw [this]
              refine ⟨.tuple #[], w, ?_, .tup trivial, r, .refl _ _ _⟩
              simp [Builtin.delete_, ht0, run_underlying hd, getMap h1, hc, h3, setMap _ h1, hw]
            · cases h3
          · cases hf0
        · rename_i i v0 n hf0
          split at hf0
          · rename_i hok
            cases hr
            have hc := check_sound (P := P) (w := w) hkt hok hk es'.isEmpty
            rcases find_sound (P := P) (w := w) hkt hok hk h2 hf0 with ⟨h3, _⟩ | ⟨i', v', n', x, h3, h4, y, h5, h6, h7⟩
            · cases h3
            · cases h3
              have hs := r.setMap hid hb (es' := es.eraseIdx i) (cl' := cl) (xs := es'.eraseIdxIfInBounds i) (by
                rw [Array.toList_eraseIdxIfInBounds]
                exact h2.eraseIdx i)
              exact ⟨.tuple #[], _, by simp [Builtin.delete_, ht0, run_underlying hd, getMap h1, hc, h6, setMap _ h1], .tup trivial, hs.1, hs.2⟩
          · cases hf0
  · cases ht
end
end Go.Proofs.Ytadbipeachcekaa.Ab
