/- The abstract machine: values with block numbers, blocks of cells, code that is run by fuel. It knows no capacities that a draw decides, no tape and no order that is open. -/
import GoSem.Core.View
import GoSem.Core.Ast
namespace Go.Proofs.Ytpgoemmjhnnmoaa.Ab
open Go

/-- values: a bool, an integer, a text, pointers, slices (block, offset, length, capacity that is known to be there; 0: that is all, else: there may be more, in elements of so many cells), maps, functions, structs and arrays by value, several results; 'un': nothing is known; 'es': a slice of nothing that isn't nil, wherever it points -/
inductive AV where
  | b (x : Bool)
  | i (k : IntKind) (n : Int)
  | s (x : List UInt8)
  | nilp
  | ptr (id off : Nat)
  | nils
  | es
  | sl (id off len cap lo : Nat)
  | nilm
  | mp (id : Nat)
  | nilf
  | fn (f : Nat) (first cap : List (Nat × Nat))
  | agg (cs : List AV)
  | tup (vs : List AV)
  | un
  deriving Inhabited, Repr

/-- the cells of what can be stored -/
def AV.cl : AV → Option (List AV)
  | .agg cs => some cs
  | .tup _ => none
  | .un => none
  | v => some [v]

inductive Blk where
  | row (cs : List AV) (ro : Bool)
  | map (es : List (AV × AV × Nat)) (clock : Nat)
  deriving Inhabited

structure AH where
  next : Nat
  blk : Nat → Option Blk

def AH.alloc (h : AH) (x : Blk) : AH := ⟨h.next + 1, fun j => if j = h.next then some x else h.blk j⟩
def AH.set (h : AH) (id : Nat) (x : Option Blk) : AH := ⟨h.next, fun j => if j = id then x else h.blk j⟩
def setl : List AV → Nat → List AV → List AV
  | cs, _, [] => cs
  | cs, o, v :: r => setl (cs.set o v) (o + 1) r
/-- cells that are known -/
def AV.isUn : AV → Bool
  | .un => true
  | _ => false
def AH.rd (h : AH) (id off : Nat) : Option AV :=
  match h.blk id with
  | some (.row cs _) => (match cs[off]? with | some v => if v.isUn then none else some v | none => none)
  | _ => none
def AH.rdn (h : AH) (id off n : Nat) : Option (List AV) :=
  match h.blk id with
  | some (.row cs _) => if off + n ≤ cs.length ∧ ((cs.drop off).take n).any AV.isUn = false then some ((cs.drop off).take n) else none
  | _ => none
def AH.wr (h : AH) (id off : Nat) (vs : List AV) : Option AH :=
  match h.blk id with
  | some (.row cs false) => if off + vs.length ≤ cs.length then some (h.set id (some (.row (setl cs off vs) false))) else none
  | _ => none

inductive AX where
  | t (n : Nat)
  | c (v : AV)
  deriving Inhabited, Repr

abbrev Env := List (Nat × AV)
def eget : Env → Nat → AV
  | [], _ => .un
  | (m, v) :: r, n => if m = n then v else eget r n
def eput (e : Env) : Option Nat → AV → Env
  | none, _ => e
  | some d, v => (d, v) :: e
def ev (e : Env) : AX → AV
  | .t n => eget e n
  | .c v => v

/-- what is compared, beside numbers and texts; a struct's and an array's cells, kind by kind -/
inductive SK where
  | bo | it | st
  deriving Inhabited, Repr, DecidableEq
inductive EK where
  | bo | pt | sl | mp | fn | ag (ks : List SK)
  deriving Inhabited, Repr, DecidableEq

/-- kinds of keys -/
inductive KK where
  | sc (k : SK) | ar (ks : List SK)
  deriving Inhabited, Repr, DecidableEq
inductive LK where
  | st | sl | mp
  deriving Inhabited, Repr, DecidableEq

inductive AO where
  | mv (x : AX)
  | pick (c a b : AX)
  | bin (op : BinOp) (x y : AX)
  | eq (kd : EK) (neg : Bool) (x y : AX)
  | not (x : AX)
  | neg (x : AX)
  | xor (x : AX)
  | toInt (k : IntKind) (x : AX)
  | same (x : AX)
  | toStr (x : AX)
  | toBytes (x : AX)
  | runeStr (x : AX)
  | alloc (z : List AV)
  | box (sz : Nat) (x : AX)
  | build (z : List AV) (ps : List (Nat × Nat × AX))
  | bsl (esz len : Nat) (z : List AV) (ps : List (Nat × Nat × AX))
  | ld (sz : Option Nat) (a : AX)
  | st (sz : Nat) (a v : AX)
  | chk (x : AX)
  | fa (off : Nat) (a : AX)
  | ia (esz : Nat) (x ix : AX)
  | iaa (n esz : Nat) (x ix : AX)
  | ix (n esz : Nat) (ag : Bool) (x ix : AX)
  | ixs (x ix : AX)
  | fld (off : Nat) (sz : Option Nat) (x : AX)
  | ext (ix : Nat) (x : AX)
  | slc (esz : Nat) (x : AX) (lo hi mx : Option AX)
  | sls (x : AX) (lo hi : Option AX)
  | sla (n esz : Nat) (x : AX) (lo hi : Option AX)
  | mks (esz bytes : Nat) (z : List AV) (l c : AX)
  | mkm
  | lkp (kk : KK) (z : AV) (ok : Bool) (m k : AX)
  | mup (kk : KK) (m k v : AX)
  | ment (kk : KK) (z : AV) (m k : AX)
  | mst (m s v : AX)
  | mkf (f : Nat) (first cap : List AX)
  | call (f : Nat) (args : List AX)
  | callv (f : AX) (args : List AX)
  | len (k : LK) (x : AX)
  | app (esz bytes : Nat) (s x : AX)
  | cpy (esz : Nat) (d s : AX)
  | mn (l : List AX)
  | mx (l : List AX)
  | del (kk : KK) (m k : AX)
  | clr (esz : Nat) (z : List AV) (x : AX)
  deriving Inhabited, Repr

/-- integers, texts -/
def bytesLess : List UInt8 → List UInt8 → Bool
  | _, [] => false
  | [], _ :: _ => true
  | a :: x, b :: y => a < b || (a == b && bytesLess x y)
def room : Nat := 140737488355328

def bitw (k : IntKind) (f : BitVec k.bits → BitVec k.bits → BitVec k.bits) (x y : Int) : AV := .i k (k.wrap ((f (BitVec.ofInt k.bits x) (BitVec.ofInt k.bits y)).toNat))
def ibin (op : BinOp) (k : IntKind) (x y : Int) : Option AV :=
  match op with
  | .add => some (.i k (k.wrap (x + y)))
  | .sub => some (.i k (k.wrap (x - y)))
  | .mul => some (.i k (k.wrap (x * y)))
  | .quo => if y = 0 then none else some (.i k (k.wrap (x.tdiv y)))
  | .rem => if y = 0 then none else some (.i k (x.tmod y))
  | .and => some (bitw k (· &&& ·) x y)
  | .or => some (bitw k (· ||| ·) x y)
  | .xor => some (bitw k (· ^^^ ·) x y)
  | .andNot => some (bitw k (fun a b => a &&& ~~~b) x y)
  | .eql => some (.b (decide (x = y)))
  | .neq => some (.b (!decide (x = y)))
  | .lss => some (.b (decide (x < y)))
  | .leq => some (.b (decide (x ≤ y)))
  | .gtr => some (.b (decide (x > y)))
  | .geq => some (.b (decide (x ≥ y)))
  | _ => none
def ishift (op : BinOp) (k : IntKind) (x y : Int) : Option AV :=
  if y < 0 then none else
  match op with
  | .shl => some (.i k (k.wrap (x * 2 ^ (min y.toNat k.bits))))
  | .shr => some (.i k (x.fdiv (2 ^ (min y.toNat k.bits))))
  | _ => none
def sbin (op : BinOp) (x y : List UInt8) : Option AV :=
  match op with
  | .add => if x.length + y.length ≤ room then some (.s (x ++ y)) else none
  | .eql => some (.b (decide (x = y)))
  | .neq => some (.b (!decide (x = y)))
  | .lss => some (.b (bytesLess x y))
  | .leq => some (.b (bytesLess x y || decide (x = y)))
  | .gtr => some (.b (!(bytesLess x y || decide (x = y))))
  | .geq => some (.b (!bytesLess x y))
  | _ => none
def sceq : SK → AV → AV → Option Bool
  | .bo, .b x, .b y => some (x == y)
  | .it, .i k x, .i k' y => if k = k' then some (decide (x = y)) else none
  | .st, .s x, .s y => some (decide (x = y))
  | _, _, _ => none
def aeqs : List SK → List AV → List AV → Option Bool
  | [], [], [] => some true
  | k :: ks, x :: xs, y :: ys =>
    match sceq k x y with
    | some true => aeqs ks xs ys
    | some false => some false
    | none => none
  | _, _, _ => none
def aeq : EK → AV → AV → Option Bool
  | .bo, .b x, .b y => some (x == y)
  | .pt, .nilp, .nilp => some true
  | .pt, .nilp, .ptr _ _ => some false
  | .pt, .ptr _ _, .nilp => some false
  | .sl, .nils, .nils => some true
  | .sl, .nils, .sl _ _ _ _ _ => some false
  | .sl, .sl _ _ _ _ _, .nils => some false
  | .sl, .nils, .es => some false
  | .sl, .es, .nils => some false
  | .mp, .nilm, .nilm => some true
  | .mp, .nilm, .mp _ => some false
  | .mp, .mp _, .nilm => some false
  | .fn, .nilf, .nilf => some true
  | .fn, .nilf, .fn _ _ _ => some false
  | .fn, .fn _ _ _, .nilf => some false
  | .ag ks, .agg xs, .agg ys => aeqs ks xs ys
  | _, _, _ => none
def abin (op : BinOp) (x y : AV) : Option AV :=
  match op, x, y with
  | .shl, .i k a, .i _ b => ishift .shl k a b
  | .shr, .i k a, .i _ b => ishift .shr k a b
  | op, .i k a, .i k' b => if k = k' then ibin op k a b else none
  | op, .s a, .s b => sbin op a b
  | _, _, _ => none

/-- parts laid into cells -/
def fills (e : Env) : List AV → List (Nat × Nat × AX) → Option (List AV)
  | z, [] => some z
  | z, (o, n, x) :: r =>
    match (ev e x).cl with
    | some cs => if cs.length = n ∧ o + n ≤ z.length then fills e (setl z o cs) r else none
    | none => none

def aload (sz : Option Nat) (a : AV) (h : AH) : Option (AV × AH) :=
  match a, sz with
  | .ptr id off, none => (h.rd id off).map fun v => (v, h)
  | .ptr id off, some n => (h.rdn id off n).map fun cs => (.agg cs, h)
  | _, _ => none
def astore (sz : Nat) (a v : AV) (h : AH) : Option (AV × AH) :=
  match a, v.cl with
  | .ptr id off, some cs => if cs.length = sz then (h.wr id off cs).map fun h' => (.tup [], h') else none
  | _, _ => none
def achk : AV → Option AV
  | .nilp => none
  | .nilf => none
  | .ptr a b => some (.ptr a b)
  | .fn f a c => some (.fn f a c)
  | _ => none
/-- a bound of a slice: lo ≤ hi ≤ mx, all of them numbers -/
def bnd (v : Option AV) (d m : Nat) : Option Nat :=
  match v with
  | none => some d
  | some (.i _ n) => if 0 ≤ n ∧ n ≤ m then some n.toNat else none
  | _ => none
def aslice (esz : Nat) (x : AV) (lo hi mx : Option AV) : Option AV :=
  match x with
  | .nils =>
    match bnd mx 0 0, bnd hi 0 0, bnd lo 0 0 with
    | some _, some _, some _ => some .nils
    | _, _, _ => none
  | .es =>
    match bnd mx 0 0, bnd hi 0 0, bnd lo 0 0 with
    | some _, some _, some _ => some .es
    | _, _, _ => none
  | .sl id off len cap lo' =>
    if lo' = 0 ∨ lo' = esz then
    match bnd mx cap cap with
    | none => none
    | some m =>
      match bnd hi len m with
      | none => none
      | some h =>
        match bnd lo 0 h with
        | none => none
        | some l => some (.sl id (off + l * esz) (h - l) (m - l) (if mx.isSome then 0 else lo'))
    else none
  | _ => none
def astrcut (x : AV) (lo hi : Option AV) : Option AV :=
  match x with
  | .s l =>
    match bnd hi l.length l.length with
    | none => none
    | some h =>
      match bnd lo 0 h with
      | none => none
      | some o => some (.s ((l.take h).drop o))
  | _ => none
def aarrcut (n esz : Nat) (x : AV) (lo hi : Option AV) : Option AV :=
  match x with
  | .ptr id off =>
    match bnd hi n n with
    | none => none
    | some h =>
      match bnd lo 0 h with
      | none => none
      | some l => some (.sl id (off + l * esz) (h - l) (n - l) 0)
  | _ => none
def aidx (esz : Nat) (x ix : AV) : Option AV :=
  match x, ix with
  | .sl id off len _ _, .i _ n => if 0 ≤ n ∧ n < (len : Int) then some (.ptr id (off + n.toNat * esz)) else none
  | _, _ => none
def aidxa (n esz : Nat) (x ix : AV) : Option AV :=
  match x, ix with
  | .ptr id off, .i _ j => if 0 ≤ j ∧ j < (n : Int) then some (.ptr id (off + j.toNat * esz)) else none
  | _, _ => none
def aidxv (n esz : Nat) (ag : Bool) (x ix : AV) : Option AV :=
  match x, ix with
  | .agg cs, .i _ j =>
    if 0 ≤ j ∧ j < (n : Int) then
      if ag then (if j.toNat * esz + esz ≤ cs.length then some (.agg ((cs.drop (j.toNat * esz)).take esz)) else none) else cs[j.toNat * esz]?
    else none
  | _, _ => none
def aidxs (x ix : AV) : Option AV :=
  match x, ix with
  | .s l, .i _ j => if 0 ≤ j then (l[j.toNat]?).map fun c => .i .u8 c.toNat else none
  | _, _ => none
def afield (off : Nat) (sz : Option Nat) (x : AV) : Option AV :=
  match x, sz with
  | .agg cs, none => cs[off]?
  | .agg cs, some n => if off + n ≤ cs.length then some (.agg ((cs.drop off).take n)) else none
  | _, _ => none
def aext (ix : Nat) (x : AV) : Option AV :=
  match x with
  | .tup vs => vs[ix]?
  | _ => none
def alen (k : LK) (x : AV) (h : AH) : Option AV :=
  match k, x with
  | .st, .s l => some (.i .i64 l.length)
  | .sl, .nils => some (.i .i64 0)
  | .sl, .es => some (.i .i64 0)
  | .sl, .sl _ _ n _ _ => some (.i .i64 n)
  | .mp, .nilm => some (.i .i64 0)
  | .mp, .mp id =>
    match h.blk id with
    | some (.map es _) => some (.i .i64 es.length)
    | _ => none
  | _, _ => none
/-- the cells that a slice, or a text, shows -/
def ashow (esz : Nat) (x : AV) (h : AH) : Option (Nat × List AV) :=
  match x with
  | .nils => some (0, [])
  | .es => some (0, [])
  | .sl id off n _ _ => (h.rdn id off (n * esz)).map fun cs => (n, cs)
  | .s l => if esz = 1 then some (l.length, l.map fun c => .i .u8 c.toNat) else none
  | _ => none
def aapp (esz bytes : Nat) (s x : AV) (h : AH) : Option (AV × AH) :=
  match ashow esz x h with
  | none => none
  | some (n, new) =>
    if 0 < esz ∧ 0 < bytes then
      match s with
      | .nils => if n = 0 then some (.nils, h) else if n * bytes ≤ room then some (.sl h.next 0 n n esz, h.alloc (.row new false)) else none
      | .es => if n = 0 then some (.es, h) else if n * bytes ≤ room then some (.sl h.next 0 n n esz, h.alloc (.row new false)) else none
      | .sl id off len cap lo =>
        if len + n ≤ cap then
          if n = 0 then some (.sl id off len cap lo, h) else (h.wr id (off + len * esz) new).map fun h' => (.sl id off (len + n) cap lo, h')
        else if (len + n) * bytes ≤ room then
          match h.rdn id off (len * esz) with
          | none => none
          | some old =>
            if lo = 0 then some (.sl h.next 0 (len + n) (len + n) esz, h.alloc (.row (old ++ new) false))
            else
              match h.blk id with
              | some (.row _ false) =>
                if off = 0 ∧ lo = esz then some (.sl h.next 0 (len + n) (len + n) esz, (h.set id none).alloc (.row (old ++ new) false)) else none
              | _ => none
        else none
      | _ => none
    else none
def acopy (esz : Nat) (d s : AV) (h : AH) : Option (AV × AH) :=
  match ashow esz s h with
  | none => none
  | some (n, new) =>
    match d with
    | .nils => some (.i .i64 0, h)
    | .sl id off len _ _ => if min n len = 0 then some (.i .i64 0, h) else (h.wr id off (new.take (min n len * esz))).map fun h' => (.i .i64 (min n len : Nat), h')
    | _ => none
def zeros (z : List AV) : Nat → List AV
  | 0 => []
  | n + 1 => z ++ zeros z n
def aclear (esz : Nat) (z : List AV) (x : AV) (h : AH) : Option (AV × AH) :=
  match x with
  | .nils => some (.tup [], h)
  | .sl id off n _ _ => if n = 0 then some (.tup [], h) else if z.length = esz then (h.wr id off (zeros z n)).map fun h' => (.tup [], h') else none
  | _ => none
def amake (esz bytes : Nat) (z : List AV) (l c : AV) (h : AH) : Option (AV × AH) :=
  match l, c with
  | .i .i64 l, .i .i64 c =>
    if 0 ≤ l ∧ l ≤ c ∧ c * bytes ≤ room ∧ 0 < bytes ∧ z.length = esz then some (.sl h.next 0 l.toNat c.toNat 0, h.alloc (.row (zeros z c.toNat) false)) else none
  | _, _ => none
/-- keys: numbers, texts, and lists -/
def keyq : KK → AV → AV → Option Bool
  | .sc k, a, b => sceq k a b
  | .ar ks, .agg a, .agg b => aeqs ks a b
  | _, _, _ => none
def conf1 : SK → AV → Bool
  | .bo, .b _ | .it, .i _ _ | .st, .s _ => true
  | _, _ => false
def confs : List SK → List AV → Bool
  | [], [] => true
  | k :: ks, x :: xs => conf1 k x && confs ks xs
  | _, _ => false
def kok : KK → AV → Bool
  | .sc k, a => conf1 k a
  | .ar ks, .agg a => confs ks a
  | _, _ => false
def kfind (kk : KK) (k : AV) : List (AV × AV × Nat) → Nat → Option (Option (Nat × AV × Nat))
  | [], _ => some none
  | (x, v, n) :: r, j =>
    match keyq kk k x with
    | some true => some (some (j, v, n))
    | some false => kfind kk k r (j + 1)
    | none => none
def amapof (m : AV) (h : AH) : Option (Nat × List (AV × AV × Nat) × Nat) :=
  match m with
  | .mp id =>
    match h.blk id with
    | some (.map es cl) => some (id, es, cl)
    | _ => none
  | _ => none
def alookup (kk : KK) (z : AV) (ok : Bool) (m k : AV) (h : AH) : Option (AV × AH) :=
  match m with
  | .nilm => if kok kk k then some (if ok then .tup [z, .b false] else z, h) else none
  | m =>
    match amapof m h with
    | none => none
    | some (_, es, _) =>
      match (if kok kk k then kfind kk k es 0 else none) with
      | none => none
      | some none => some (if ok then .tup [z, .b false] else z, h)
      | some (some (_, v, _)) => some (if ok then .tup [v, .b true] else v, h)
def amapput (kk : KK) (m k v : AV) (h : AH) : Option (AV × AH) :=
  match amapof m h with
  | none => none
  | some (id, es, cl) =>
    match (if kok kk k then kfind kk k es 0 else none) with
    | none => none
    | some none => some (.tup [], h.set id (some (.map (es ++ [(k, v, cl)]) (cl + 1))))
    | some (some (j, _, n)) => some (.tup [], h.set id (some (.map (es.set j (k, v, n)) cl)))
def amapent (kk : KK) (z m k : AV) (h : AH) : Option (AV × AH) :=
  match amapof m h with
  | none => none
  | some (id, es, cl) =>
    match (if kok kk k then kfind kk k es 0 else none) with
    | none => none
    | some none => some (.tup [z, .i .i64 cl], h.set id (some (.map (es ++ [(k, z, cl)]) (cl + 1))))
    | some (some (j, v, n)) => some (.tup [v, .i .i64 n], h.set id (some (.map (es.set j (k, v, n)) cl)))
def bfind (born : Int) : List (AV × AV × Nat) → Nat → Option (Nat × AV × Nat)
  | [], _ => none
  | (k, _, n) :: r, j => if (n : Int) = born then some (j, k, n) else bfind born r (j + 1)
def amapst (m s v : AV) (h : AH) : Option (AV × AH) :=
  match amapof m h, s with
  | some (id, es, cl), .i _ born =>
    match bfind born es 0 with
    | none => none
    | some (j, k, n) => some (.tup [], h.set id (some (.map (es.set j (k, v, n)) cl)))
  | _, _ => none
def adel (kk : KK) (m k : AV) (h : AH) : Option (AV × AH) :=
  match m with
  | .nilm => if kok kk k then some (.tup [], h) else none
  | m =>
    match amapof m h with
    | none => none
    | some (id, es, cl) =>
      match (if kok kk k then kfind kk k es 0 else none) with
      | none => none
      | some none => some (.tup [], h)
      | some (some (j, _, _)) => some (.tup [], h.set id (some (.map (es.eraseIdx j) cl)))
def ptrs : List AV → Option (List (Nat × Nat))
  | [] => some []
  | .ptr a o :: r => (ptrs r).map ((a, o) :: ·)
  | _ => none
def bytesOf : List AV → Option (List UInt8)
  | [] => some []
  | .i .u8 n :: r => (bytesOf r).map (UInt8.ofNat n.toNat :: ·)
  | _ => none
def amins : AV → List AV → Option AV
  | x, [] => some x
  | .i k x, .i k' y :: r => if k = k' then amins (.i k (if y < x then y else x)) r else none
  | _, _ => none
def amaxs : AV → List AV → Option AV
  | x, [] => some x
  | .i k x, .i k' y :: r => if k = k' then amaxs (.i k (if y > x then y else x)) r else none
  | _, _ => none
def pureh (h : AH) (v : Option AV) : Option (AV × AH) := v.map fun x => (x, h)

/-- an operation that is no call -/
def aop (o : AO) (e : Env) (h : AH) : Option (AV × AH) :=
  match o with
  | .mv x => some (ev e x, h)
  | .pick c a b =>
    match ev e c with
    | .b true => some (ev e a, h)
    | .b false => some (ev e b, h)
    | _ => none
  | .bin op x y => pureh h (abin op (ev e x) (ev e y))
  | .eq kd neg x y => pureh h ((aeq kd (ev e x) (ev e y)).map fun r => .b (r != neg))
  | .not x => pureh h (match ev e x with | .b v => some (.b (!v)) | _ => none)
  | .neg x => pureh h (match ev e x with | .i k n => some (.i k (k.wrap (0 - n))) | _ => none)
  | .xor x => pureh h (match ev e x with | .i k n => some (bitw k (· ^^^ ·) (if k.signed then -1 else k.max) n) | _ => none)
  | .toInt k x => pureh h (match ev e x with | .i _ n => some (.i k (k.wrap n)) | _ => none)
  | .same x => pureh h (match ev e x with | .s l => some (.s l) | _ => none)
  | .toStr x =>
    match ashow 1 (ev e x) h with
    | some (_, cs) => pureh h ((bytesOf cs).map .s)
    | none => none
  | .toBytes x =>
    match ev e x with
    | .s l => if l.length ≤ room then some (.sl h.next 0 l.length l.length 1, h.alloc (.row (l.map fun c => .i .u8 c.toNat) false)) else none
    | _ => none
  | .runeStr x => pureh h (match ev e x with | .i _ n => if 0 ≤ n ∧ n < 128 then some (.s [UInt8.ofNat n.toNat]) else none | _ => none)
  | .alloc z => some (.ptr h.next 0, h.alloc (.row z false))
  | .box sz x =>
    match (ev e x).cl with
    | some cs => if cs.length = sz then some (.ptr h.next 0, h.alloc (.row cs false)) else none
    | none => none
  | .build z ps => pureh h ((fills e z ps).map .agg)
  | .bsl esz len z ps =>
    match fills e z ps with
    | some cs => if cs.length = len * esz then some (.sl h.next 0 len len 0, h.alloc (.row cs false)) else none
    | none => none
  | .ld sz a => aload sz (ev e a) h
  | .st sz a v => astore sz (ev e a) (ev e v) h
  | .chk x => pureh h (achk (ev e x))
  | .fa off a => pureh h (match ev e a with | .ptr id o => some (.ptr id (o + off)) | _ => none)
  | .ia esz x ix => pureh h (aidx esz (ev e x) (ev e ix))
  | .iaa n esz x ix => pureh h (aidxa n esz (ev e x) (ev e ix))
  | .ix n esz ag x ix => pureh h (aidxv n esz ag (ev e x) (ev e ix))
  | .ixs x ix => pureh h (aidxs (ev e x) (ev e ix))
  | .fld off sz x => pureh h (afield off sz (ev e x))
  | .ext ix x => pureh h (aext ix (ev e x))
  | .slc esz x lo hi mx => pureh h (aslice esz (ev e x) (lo.map (ev e)) (hi.map (ev e)) (mx.map (ev e)))
  | .sls x lo hi => pureh h (astrcut (ev e x) (lo.map (ev e)) (hi.map (ev e)))
  | .sla n esz x lo hi => pureh h (aarrcut n esz (ev e x) (lo.map (ev e)) (hi.map (ev e)))
  | .mks esz bytes z l c => amake esz bytes z (ev e l) (ev e c) h
  | .mkm => some (.mp h.next, h.alloc (.map [] 0))
  | .lkp kk z ok m k => alookup kk z ok (ev e m) (ev e k) h
  | .mup kk m k v => if (ev e k).cl.isSome ∧ (ev e v).cl.isSome then amapput kk (ev e m) (ev e k) (ev e v) h else none
  | .ment kk z m k => if (ev e k).cl.isSome then amapent kk z (ev e m) (ev e k) h else none
  | .mst m s v => if (ev e v).cl.isSome then amapst (ev e m) (ev e s) (ev e v) h else none
  | .mkf f first cap => pureh h (match ptrs (first.map (ev e)), ptrs (cap.map (ev e)) with | some a, some c => some (.fn f a c) | _, _ => none)
  | .call _ _ => none
  | .callv _ _ => none
  | .len k x => pureh h (alen k (ev e x) h)
  | .app esz bytes s x => aapp esz bytes (ev e s) (ev e x) h
  | .cpy esz d s => acopy esz (ev e d) (ev e s) h
  | .mn l => pureh h (match l.map (ev e) with | x :: r => amins x r | [] => none)
  | .mx l => pureh h (match l.map (ev e) with | x :: r => amaxs x r | [] => none)
  | .del kk m k => adel kk (ev e m) (ev e k) h
  | .clr esz z x => aclear esz z (ev e x) h

structure AOp where
  d : Option Nat
  g : Option (Nat × Bool)
  o : AO
  deriving Inhabited, Repr

abbrev CallF := Nat → List AV → AH → Option (AV × AH)
def exOp (C : CallF) (o : AO) (e : Env) (h : AH) : Option (AV × AH) :=
  match o with
  | .call f args => C f (args.map (ev e)) h
  | .callv f args =>
    match ev e f with
    | .fn g first cap => C g (first.map (fun p => .ptr p.1 p.2) ++ args.map (ev e) ++ cap.map (fun p => .ptr p.1 p.2)) h
    | _ => none
  | o => aop o e h
/-- is the operation wanted? -/
def guarded (e : Env) : Option (Nat × Bool) → Option Bool
  | none => some true
  | some (s, w) =>
    match eget e s with
    | .b x => some (x == w)
    | .tup [] => some false
    | _ => none
def stepOp (C : CallF) (o : AOp) (e : Env) (h : AH) : Option (AV × AH) :=
  match guarded e o.g with
  | some true => exOp C o.o e h
  | some false => some (.tup [], h)
  | none => none
def exOps (C : CallF) : List AOp → Env → AH → Option (Env × AH)
  | [], e, h => some (e, h)
  | o :: r, e, h =>
    match stepOp C o e h with
    | some (v, h') => exOps C r (eput e o.d v) h'
    | none => none

/-- operations that turn memory, beside those that only make some -/
def AO.loud : AO → Bool
  | .st _ _ _ | .mup _ _ _ _ | .ment _ _ _ _ | .mst _ _ _ | .call _ _ | .callv _ _ | .app _ _ _ _ | .cpy _ _ _ | .del _ _ _ | .clr _ _ _ => true
  | _ => false

/-! ### values can be compared -/
mutual
def AV.q : AV → AV → Bool
  | .b p, .b q => p == q
  | .i p q, .i r u => decide (p = r) && decide (q = u)
  | .s p, .s q => decide (p = q)
  | .nilp, .nilp => true
  | .ptr p q, .ptr r u => decide (p = r) && decide (q = u)
  | .nils, .nils => true
  | .es, .es => true
  | .sl p q r u v, .sl p' q' r' u' v' => decide (p = p') && decide (q = q') && decide (r = r') && decide (u = u') && decide (v = v')
  | .nilm, .nilm => true
  | .mp p, .mp q => decide (p = q)
  | .nilf, .nilf => true
  | .fn p q r, .fn p' q' r' => decide (p = p') && decide (q = q') && decide (r = r')
  | .agg p, .agg q => AV.qs p q
  | .tup p, .tup q => AV.qs p q
  | .un, .un => true
  | _, _ => false
termination_by structural x => x
def AV.qs : List AV → List AV → Bool
  | [], [] => true
  | p :: q, r :: u => AV.q p r && AV.qs q u
  | _, _ => false
termination_by structural x => x
end
mutual
theorem AV.q_eq : ∀ (x y : AV), AV.q x y = true ↔ x = y
  | .b p, y => by cases y <;> simp [AV.q]
  | .i p q, y => by cases y <;> simp [AV.q]
  | .s p, y => by cases y <;> simp [AV.q]
  | .nilp, y => by cases y <;> simp [AV.q]
  | .ptr p q, y => by cases y <;> simp [AV.q]
  | .nils, y => by cases y <;> simp [AV.q]
  | .es, y => by cases y <;> simp [AV.q]
  | .sl p q r u v, y => by cases y <;> simp [AV.q, and_assoc]
  | .nilm, y => by cases y <;> simp [AV.q]
  | .mp p, y => by cases y <;> simp [AV.q]
  | .nilf, y => by cases y <;> simp [AV.q]
  | .fn p q r, y => by cases y <;> simp [AV.q, and_assoc]
  | .agg p, y => by
    cases y with
    | agg q => simp [AV.q, AV.qs_eq p q]
    | _ => simp [AV.q]
  | .tup p, y => by
    cases y with
    | tup q => simp [AV.q, AV.qs_eq p q]
    | _ => simp [AV.q]
  | .un, y => by cases y <;> simp [AV.q]
theorem AV.qs_eq : ∀ (x y : List AV), AV.qs x y = true ↔ x = y
  | [], y => by cases y <;> simp [AV.qs]
  | p :: q, y => by
    cases y with
    | nil => simp [AV.qs]
    | cons r u => simp [AV.qs, AV.q_eq p r, AV.qs_eq q u]
end
instance : DecidableEq AV := fun x y => decidable_of_iff _ (AV.q_eq x y)

/-! ### code -/
/-- how a piece of code ends -/
inductive XT where
  | nrm | ret | ex (id : Nat)
  deriving Inhabited, Repr, DecidableEq
/-- where a result lies: in a slot, or in a variable whose address a slot holds -/
inductive RV where
  | t (n : Nat)
  | cell (n : Nat) (sz : Option Nat)
  deriving Inhabited, Repr
/-- code; 'kp': the slots that are still known behind a region; 'rc': readers of a region whose order is open, and the states at which they are read again -/
inductive AC where
  | skip | ret
  | exit (id : Nat)
  | seq (a b : AC)
  | cond (c : AX) (t e : AC)
  | block (id : Nat) (b : AC)
  | loop (b : AC)
  | reg (ops : List AOp) (kp : List Nat)
  | regd (ops : List AOp) (rc : List (Nat × Nat)) (kp : List Nat)
  deriving Inhabited, Repr
structure AFun where
  np : Nat
  res : List RV
  body : AC
  deriving Inhabited
inductive AEnt where
  | fn (F : AFun)
  | spec (g : List AV → Option AV)

def keepE (kp : List Nat) (e : Env) : Env := kp.map fun k => (k, eget e k)
/-- the states ahead of each operation, with the value that it gives -/
def exTr (C : CallF) : List AOp → Env → AH → Option (List (Env × AH × AV) × Env × AH)
  | [], e, h => some ([], e, h)
  | o :: r, e, h =>
    match stepOp C o e h with
    | some (v, h') =>
      match exTr C r (eput e o.d v) h' with
      | some (tr, e', h'') => some ((e, h, v) :: tr, e', h'')
      | none => none
    | none => none
def rcOne (ops : List AOp) (tr : List (Env × AH × AV)) (hf : AH) (q : Nat × Nat) : Bool :=
  match ops[q.1]?, tr[q.1]? with
  | some o, some (e, _, v) =>
    match guarded e o.g with
    | some true => (match aop o.o e (((tr[q.2]?).map fun x => x.2.1).getD hf) with | some (v', _) => decide (v' = v) | none => false)
    | some false => true
    | none => false
  | _, _ => false
def rcOk (ops : List AOp) (tr : List (Env × AH × AV)) (hf : AH) (rc : List (Nat × Nat)) : Bool := rc.all (rcOne ops tr hf)

def exL (B : Env → AH → Option (XT × Env × AH)) : Nat → Env → AH → Option (XT × Env × AH)
  | 0, _, _ => none
  | n + 1, e, h =>
    match B e h with
    | some (.nrm, e', h') => exL B n e' h'
    | some (.ret, e', h') => some (.ret, e', h')
    | some (.ex i, e', h') => some (.ex i, e', h')
    | none => none
def exC (C : CallF) (n : Nat) : AC → Env → AH → Option (XT × Env × AH)
  | .skip, e, h => some (.nrm, e, h)
  | .ret, e, h => some (.ret, e, h)
  | .exit i, e, h => some (.ex i, e, h)
  | .seq a b, e, h =>
    match exC C n a e h with
    | some (.nrm, e', h') => exC C n b e' h'
    | some (.ret, e', h') => some (.ret, e', h')
    | some (.ex i, e', h') => some (.ex i, e', h')
    | none => none
  | .cond c t f, e, h =>
    match ev e c with
    | .b true => exC C n t e h
    | .b false => exC C n f e h
    | _ => none
  | .block i b, e, h =>
    match exC C n b e h with
    | some (.ex j, e', h') => if j = i then some (.nrm, e', h') else some (.ex j, e', h')
    | some (.nrm, e', h') => some (.nrm, e', h')
    | some (.ret, e', h') => some (.ret, e', h')
    | none => none
  | .loop b, e, h => exL (exC C n b) n e h
  | .reg ops kp, e, h =>
    match exOps C ops e h with
    | some (e', h') => some (.nrm, keepE kp e', h')
    | none => none
  | .regd ops rc kp, e, h =>
    match exTr C ops e h with
    | some (tr, e', h') => if rcOk ops tr h' rc then some (.nrm, keepE kp e', h') else none
    | none => none

def bindA : Nat → List AV → Env
  | _, [] => []
  | k, v :: r => (k, v) :: bindA (k + 1) r
def ares (r : RV) (e : Env) (h : AH) : Option AV :=
  match r with
  | .t n => some (eget e n)
  | .cell n sz => (aload sz (eget e n) h).map (·.1)
def aress : List RV → Env → AH → Option (List AV)
  | [], _, _ => some []
  | r :: rs, e, h =>
    match ares r e h, aress rs e h with
    | some v, some vs => some (v :: vs)
    | _, _ => none
def AV.isTup : AV → Bool
  | .tup _ => true
  | _ => false
/-- the results as one value -/
def tie : List AV → Option AV
  | [v] => some v
  | vs => if vs.any AV.isTup then none else some (.tup vs)
def exF (C : CallF) (n : Nat) (F : AFun) (args : List AV) (h : AH) : Option (AV × AH) :=
  if args.length = F.np then
    match exC C n F.body (bindA 0 args) h with
    | some (.nrm, e, h') | some (.ret, e, h') =>
      match aress F.res e h' with
      | some vs => (tie vs).map fun v => (v, h')
      | none => none
    | _ => none
  else none
abbrev AT := Nat → Option AEnt
def exN (T : AT) : Nat → CallF
  | 0, _, _, _ => none
  | n + 1, f, args, h =>
    match T f with
    | some (.fn F) => exF (exN T n) n F args h
    | some (.spec g) => (g args).map fun v => (v, h)
    | none => none
end Go.Proofs.Ytpgoemmjhnnmoaa.Ab
