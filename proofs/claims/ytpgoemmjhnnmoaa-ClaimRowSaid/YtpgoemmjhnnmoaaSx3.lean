/- The second machine: operations. -/
import Derived.Test.YtpgoemmjhnnmoaaSx2
namespace Go.Proofs.Ytpgoemmjhnnmoaa.Ab
open Go
set_option linter.unusedVariables false
def cst : AV → SV
  | .b x => .p (.b x)
  | .i k n => .p (.i k n)
  | .s x => .p (.s x)
  | .nilp => .p .nilp
  | .nils => .p .nils
  | .nilm => .p .nilm
  | .nilf => .p .nilf
  | _ => .un
def evs (e : SE) : AX → SV
  | .t n => eg e n
  | .c v => cst v
def scs : List SV → Option (List AV)
  | [] => some []
  | v :: r =>
    match sc v, scs r with
    | some a, some l => some (a :: l)
    | _, _ => none
def pvs : List SV → Option (List PV)
  | [] => some []
  | .p v :: r => (pvs r).map (v :: ·)
  | _ => none
def setg {α : Type} : List α → Nat → List α → List α
  | cs, _, [] => cs
  | cs, o, v :: r => setg (cs.set o v) (o + 1) r
def ldc (sz : Option Nat) (t : Nat) (cs : List SV) : Option SV :=
  match sz with
  | none => match cs[t]? with | some v => if v.isUn then none else some v | none => none
  | some n => if t + n ≤ cs.length ∧ ((cs.drop t).take n).any SV.isUn = false then some (.agg ((cs.drop t).take n)) else none
def ldp (sz : Option Nat) (t : Nat) (cs : List PV) : Option SV :=
  match sz with
  | none => (cs[t]?).map .p
  | some n => if t + n ≤ cs.length then some (.agg (((cs.drop t).take n).map .p)) else none
def bAt (h : SH) (id : Nat) : Option B2 :=
  match h[id]? with
  | some (some b) => some b
  | _ => none
def ld2 (sz : Option Nat) (a : SV) (h : SH) : Option SV :=
  match a with
  | .ptr id off => match bAt h id with | some (.obj cs) => ldc sz off cs | _ => none
  | .ep esz id j t => match bAt h id with | some (.arr esz' els) => if esz' = esz then (match els[j]? with | some el => ldp sz t el | none => none) else none | _ => none
  | .p (.fp cs t) => ldp sz t cs
  | _ => none
def st2 (sz : Nat) (a v : SV) (h : SH) : Option SH :=
  match v.cl with
  | none => none
  | some vs =>
    if vs.length = sz then
      match a with
      | .ptr id off => match bAt h id with | some (.obj cs) => if off + vs.length ≤ cs.length then some (h.set id (some (.obj (setg cs off vs)))) else none | _ => none
      | .ep esz id j t =>
        match bAt h id with
        | some (.arr esz' els) =>
          if esz' = esz then
            match els[j]?, pvs vs with
            | some el, some ps => if t + ps.length ≤ el.length then some (h.set id (some (.arr esz (els.set j (setg el t ps))))) else none
            | _, _ => none
          else none
        | _ => none
      | _ => none
    else none
def sptr : SV → Bool
  | .ptr _ _ => true
  | .ep _ _ _ _ => true
  | .p (.fp _ _) => true
  | _ => false
def chk2 (v : SV) : Option SV :=
  match v with
  | .ptr _ _ => some v
  | .ep _ _ _ _ => some v
  | .p (.fp _ _) => some v
  | .fn _ _ _ => some v
  | _ => none
def fa2 (off : Nat) (v : SV) : Option SV :=
  match v with
  | .ptr id o => some (.ptr id (o + off))
  | .ep e id j t => some (.ep e id j (t + off))
  | .p (.fp cs t) => some (.p (.fp cs (t + off)))
  | _ => none
def ia2 (esz : Nat) (x ix : SV) : Option SV :=
  match x, ix with
  | .sl esz' id off len _, .p (.i _ n) => if esz' = esz ∧ 0 ≤ n ∧ n < (len : Int) then some (.ep esz id (off + n.toNat) 0) else none
  | .so esz' id off len, .p (.i _ n) => if esz' = esz ∧ 0 ≤ n ∧ n < (len : Int) then some (.ptr id (off + n.toNat * esz)) else none
  | .p (.fz esz' els), .p (.i _ n) => if esz' = esz ∧ 0 ≤ n then (els[n.toNat]?).map fun el => .p (.fp el 0) else none
  | _, _ => none
def iaa2 (n esz : Nat) (x ix : SV) : Option SV :=
  match ix with
  | .p (.i _ j) => if 0 ≤ j ∧ j < (n : Int) then fa2 (j.toNat * esz) x else none
  | _ => none
def ix2 (n esz : Nat) (ag : Bool) (x ix : SV) : Option SV :=
  match x, ix with
  | .agg cs, .p (.i _ j) =>
    if 0 ≤ j ∧ j < (n : Int) then
      if ag then (if j.toNat * esz + esz ≤ cs.length then some (.agg ((cs.drop (j.toNat * esz)).take esz)) else none) else cs[j.toNat * esz]?
    else none
  | _, _ => none
def ixs2 (x ix : SV) : Option SV :=
  match x, ix with
  | .p (.s l), .p (.i _ j) => if 0 ≤ j then (l[j.toNat]?).map fun c => .p (.i .u8 c.toNat) else none
  | _, _ => none
def fld2 (off : Nat) (sz : Option Nat) (x : SV) : Option SV :=
  match x, sz with
  | .agg cs, none => cs[off]?
  | .agg cs, some n => if off + n ≤ cs.length then some (.agg ((cs.drop off).take n)) else none
  | _, _ => none
def ext2 (ix : Nat) (x : SV) : Option SV :=
  match x with
  | .tup vs => vs[ix]?
  | _ => none
def bnd2 (v : Option SV) (d m : Nat) : Option Nat :=
  match v with
  | none => some d
  | some (.p (.i _ n)) => if 0 ≤ n ∧ n ≤ m then some n.toNat else none
  | _ => none
def slc2 (esz : Nat) (x : SV) (lo hi mx : Option SV) : Option SV :=
  if (mx.isSome && hi.isNone) = true then none else
  match x with
  | .p .nils =>
    match bnd2 mx 0 0, bnd2 hi 0 0, bnd2 lo 0 0 with
    | some _, some _, some _ => some (.p .nils)
    | _, _, _ => none
  | .sl esz' id off len cap =>
    if esz' = esz then
    match bnd2 mx (cap.getD len) (cap.getD len) with
    | none => none
    | some m =>
      match bnd2 hi len m with
      | none => none
      | some h =>
        match bnd2 lo 0 h with
        | none => none
        | some l => some (.sl esz id (off + l) (h - l) (some (m - l)))
    else none
  | .p (.fz esz' els) =>
    if esz' = esz then
    match bnd2 mx els.length els.length with
    | none => none
    | some m =>
      match bnd2 hi els.length m with
      | none => none
      | some h =>
        match bnd2 lo 0 h with
        | none => none
        | some l => some (.p (.fz esz ((els.take h).drop l)))
    else none
  | _ => none
def sls2 (x : SV) (lo hi : Option SV) : Option SV :=
  match x with
  | .p (.s l) =>
    match bnd2 hi l.length l.length with
    | none => none
    | some h =>
      match bnd2 lo 0 h with
      | none => none
      | some o => some (.p (.s ((l.take h).drop o)))
  | _ => none
def sla2 (n esz : Nat) (x : SV) (lo hi : Option SV) : Option SV :=
  match x with
  | .ptr id off =>
    match bnd2 hi n n with
    | none => none
    | some h =>
      match bnd2 lo 0 h with
      | none => none
      | some l => some (.so esz id (off + l * esz) (h - l))
  | _ => none
def len2 (k : LK) (x : SV) (h : SH) : Option SV :=
  match k, x with
  | .st, .p (.s l) => some (.p (.i .i64 l.length))
  | .sl, .p .nils => some (.p (.i .i64 0))
  | .sl, .sl _ _ _ n _ => some (.p (.i .i64 n))
  | .sl, .so _ _ _ n => some (.p (.i .i64 n))
  | .sl, .p (.fz _ els) => some (.p (.i .i64 els.length))
  | .mp, .p .nilm => some (.p (.i .i64 0))
  | .mp, .mp id => match bAt h id with | some (.map es) => some (.p (.i .i64 es.length)) | _ => none
  | _, _ => none
def show2 (esz : Nat) (x : SV) (h : SH) : Option (List (List PV)) :=
  match x with
  | .p .nils => some []
  | .sl esz' id off len _ => match bAt h id with | some (.arr e' els) => if e' = esz ∧ esz' = esz ∧ off + len ≤ els.length then some ((els.drop off).take len) else none | _ => none
  | .p (.fz esz' els) => if esz' = esz then some els else none
  | .p (.s l) => if esz = 1 then some (l.map fun c => [.i .u8 c.toNat]) else none
  | _ => none
def app2 (esz bytes : Nat) (s x : SV) (h : SH) : Option (SV × SH) :=
  match show2 esz x h with
  | none => none
  | some new =>
    if 0 < esz ∧ 0 < bytes then
      match s with
      | .p .nils => if new.length * bytes ≤ room then some (.sl esz h.length 0 new.length none, h ++ [some (.arr esz new)]) else none
      | .sl esz' id off len cap =>
        match bAt h id with
        | some (.arr e' els) =>
          if e' = esz ∧ esz' = esz then
            match cap with
            | none => if off = 0 ∧ len ≤ els.length ∧ (len + new.length) * bytes ≤ room then some (.sl esz h.length 0 (len + new.length) none, h.set id none ++ [some (.arr esz (els.take len ++ new))]) else none
            | some m => if len + new.length ≤ m ∧ off + (len + new.length) ≤ els.length then
                some (.sl esz id off (len + new.length) (some m), h.set id (some (.arr esz (els.take (off + len) ++ new ++ els.drop (off + len + new.length))))) else none
          else none
        | _ => none
      | _ => none
    else none
def cpy2 (esz : Nat) (d s : SV) (h : SH) : Option (SV × SH) :=
  match show2 esz s h with
  | none => none
  | some new =>
    match d with
    | .sl esz' id off len cap =>
      match bAt h id with
      | some (.arr e' els) => if 0 < esz ∧ e' = esz ∧ esz' = esz ∧ off + len ≤ els.length then
          some (.p (.i .i64 (min new.length len : Nat)), h.set id (some (.arr esz (els.take off ++ new.take len ++ els.drop (off + min new.length len))))) else none
      | _ => none
    | _ => none
def csts : List AV → Option (List PV)
  | [] => some []
  | v :: r =>
    match cst v, csts r with
    | .p a, some l => some (a :: l)
    | _, _ => none
def clr2 (esz : Nat) (z : List AV) (x : SV) (h : SH) : Option (SV × SH) :=
  match x with
  | .p .nils => some (.tup [], h)
  | .sl esz' id off len cap =>
    match bAt h id, csts z with
    | some (.arr e' els), some zs => if 0 < esz ∧ e' = esz ∧ esz' = esz ∧ off + len ≤ els.length ∧ zs.length = esz then
        some (.tup [], h.set id (some (.arr esz (els.take off ++ List.replicate len zs ++ els.drop (off + len))))) else none
    | _, _ => none
  | _ => none
def mks2 (esz bytes : Nat) (z : List AV) (l c : SV) (h : SH) : Option (SV × SH) :=
  match l, c, csts z with
  | .p (.i .i64 l), .p (.i .i64 c), some zs =>
    if 0 ≤ l ∧ l ≤ c ∧ c * bytes ≤ room ∧ 0 < bytes ∧ zs.length = esz ∧ 0 < esz then some (.sl esz h.length 0 l.toNat none, h ++ [some (.arr esz (List.replicate l.toNat zs))]) else none
  | _, _, _ => none
def fills2 (e : SE) : List SV → List (Nat × Nat × AX) → Option (List SV)
  | z, [] => some z
  | z, (o, n, x) :: r =>
    match (evs e x).cl with
    | some cs => if cs.length = n ∧ o + n ≤ z.length then fills2 e (setg z o cs) r else none
    | none => none
def chunk {α : Type} (esz : Nat) : Nat → List α → List (List α)
  | 0, _ => []
  | n + 1, l => l.take esz :: chunk esz n (l.drop esz)
def aeq2 (kd : EK) (x y : SV) : Option Bool :=
  match kd, x, y with
  | .bo, .p (.b x), .p (.b y) => some (x == y)
  | .pt, .p .nilp, .p .nilp => some true
  | .pt, x, .p .nilp => if sptr x then some false else none
  | .pt, .p .nilp, y => if sptr y then some false else none
  | .sl, .p .nils, .p .nils => some true
  | .sl, .p (.fz _ (_ :: _)), .p .nils => some false
  | .sl, .sl _ _ _ (_ + 1) _, .p .nils => some false
  | .mp, .p .nilm, .p .nilm => some true
  | .mp, .mp _, .p .nilm => some false
  | .fn, .p .nilf, .p .nilf => some true
  | .fn, .fn _ _ _, .p .nilf => some false
  | .ag ks, .agg xs, .agg ys => match scs xs, scs ys with | some a, some b => aeqs ks a b | _, _ => none
  | _, _, _ => none
def key2 : SV → Option AV
  | .agg cs => (scs cs).map .agg
  | v => sc v
def keyq2 (kk : KK) (a b : SV) : Option Bool :=
  match key2 a, key2 b with
  | some x, some y => keyq kk x y
  | _, _ => none
def kok2 (kk : KK) (a : SV) : Bool :=
  match key2 a with
  | some x => kok kk x
  | none => false
def kfind2 (kk : KK) (k : SV) : List (SV × SV) → Nat → Option (Option (Nat × SV))
  | [], _ => some none
  | (x, v) :: r, j =>
    match keyq2 kk k x with
    | some true => some (some (j, v))
    | some false => kfind2 kk k r (j + 1)
    | none => none
def mapAt (m : SV) (h : SH) : Option (Nat × List (SV × SV)) :=
  match m with
  | .mp id => match bAt h id with | some (.map es) => some (id, es) | _ => none
  | _ => none
def mfind (kk : KK) (k : SV) (es : List (SV × SV)) : Option (Option (Nat × SV)) := if kok2 kk k then kfind2 kk k es 0 else none
def lkp2 (kk : KK) (z : AV) (ok : Bool) (m k : SV) (h : SH) : Option SV :=
  match mapAt m h with
  | none => none
  | some (_, es) =>
    match mfind kk k es with
    | none => none
    | some none => some (if ok then .tup [zv z, .p (.b false)] else zv z)
    | some (some (_, v)) => some (if ok then .tup [v, .p (.b true)] else v)
where zv : AV → SV
  | .agg cs => .agg (cs.map cst)
  | v => cst v
def mup2 (kk : KK) (m k v : SV) (h : SH) : Option SH :=
  match mapAt m h with
  | none => none
  | some (id, es) =>
    if k.cl.isSome ∧ v.cl.isSome then
    match mfind kk k es with
    | none => none
    | some none => some (h.set id (some (.map (es ++ [(k, v)]))))
    | some (some (j, _)) => some (h.set id (some (.map (es.set j (k, v)))))
    else none
def del2 (kk : KK) (m k : SV) (h : SH) : Option SH :=
  match mapAt m h with
  | none => none
  | some (id, es) =>
    match mfind kk k es with
    | none => none
    | some none => some h
    | some (some (j, _)) => some (h.set id (some (.map (es.eraseIdx j))))
def bytes2 : List (List PV) → Option (List UInt8)
  | [] => some []
  | [.i .u8 n] :: r => (bytes2 r).map (UInt8.ofNat n.toNat :: ·)
  | _ => none
def ph (h : SH) (v : Option SV) : Option (SV × SH) := v.map fun x => (x, h)
def uns (h : SH) (v : Option SH) : Option (SV × SH) := v.map fun x => (.tup [], x)

/-- an operation that is no call -/
def aop2 (o : AO) (e : SE) (h : SH) : Option (SV × SH) :=
  match o with
  | .mv x => some (evs e x, h)
  | .pick c a b =>
    match evs e c with
    | .p (.b true) => some (evs e a, h)
    | .p (.b false) => some (evs e b, h)
    | _ => none
  | .bin op x y => ph h (match sc (evs e x), sc (evs e y) with | some a, some b => (abin op a b).map usc | _, _ => none)
  | .eq kd neg x y => ph h ((aeq2 kd (evs e x) (evs e y)).map fun r => .p (.b (r != neg)))
  | .not x => ph h (match evs e x with | .p (.b v) => some (.p (.b (!v))) | _ => none)
  | .neg x => ph h (match evs e x with | .p (.i k n) => some (.p (.i k (k.wrap (0 - n)))) | _ => none)
  | .xor x => ph h (match evs e x with | .p (.i k n) => some (usc (bitw k (· ^^^ ·) (if k.signed then -1 else k.max) n)) | _ => none)
  | .toInt k x => ph h (match evs e x with | .p (.i _ n) => some (.p (.i k (k.wrap n))) | _ => none)
  | .same x => ph h (match evs e x with | .p (.s l) => some (.p (.s l)) | _ => none)
  | .toStr x => ph h (match show2 1 (evs e x) h with | some els => (bytes2 els).map fun l => .p (.s l) | none => none)
  | .toBytes x =>
    match evs e x with
    | .p (.s l) => if l.length ≤ room then some (.sl 1 h.length 0 l.length none, h ++ [some (.arr 1 (l.map fun c => [.i .u8 c.toNat]))]) else none
    | _ => none
  | .runeStr x => ph h (match evs e x with | .p (.i _ n) => if 0 ≤ n ∧ n < 128 then some (.p (.s [UInt8.ofNat n.toNat])) else none | _ => none)
  | .alloc z => some (.ptr h.length 0, h ++ [some (.obj (z.map cst))])
  | .box sz x =>
    match (evs e x).cl with
    | some cs => if cs.length = sz then some (.ptr h.length 0, h ++ [some (.obj cs)]) else none
    | none => none
  | .build z ps => ph h ((fills2 e (z.map cst) ps).map .agg)
  | .bsl esz len z ps =>
    match fills2 e (z.map cst) ps with
    | some cs =>
      match pvs cs with
      | some l => if 0 < esz ∧ l.length = len * esz then some (.sl esz h.length 0 len none, h ++ [some (.arr esz (chunk esz len l))]) else none
      | none => none
    | none => none
  | .ld sz a => ph h (ld2 sz (evs e a) h)
  | .st sz a v => uns h (st2 sz (evs e a) (evs e v) h)
  | .chk x => ph h (chk2 (evs e x))
  | .fa off a => ph h (fa2 off (evs e a))
  | .ia esz x ix => ph h (ia2 esz (evs e x) (evs e ix))
  | .iaa n esz x ix => ph h (iaa2 n esz (evs e x) (evs e ix))
  | .ix n esz ag x ix => ph h (ix2 n esz ag (evs e x) (evs e ix))
  | .ixs x ix => ph h (ixs2 (evs e x) (evs e ix))
  | .fld off sz x => ph h (fld2 off sz (evs e x))
  | .ext ix x => ph h (ext2 ix (evs e x))
  | .slc esz x lo hi mx => ph h (slc2 esz (evs e x) (lo.map (evs e)) (hi.map (evs e)) (mx.map (evs e)))
  | .sls x lo hi => ph h (sls2 (evs e x) (lo.map (evs e)) (hi.map (evs e)))
  | .sla n esz x lo hi => ph h (sla2 n esz (evs e x) (lo.map (evs e)) (hi.map (evs e)))
  | .mks esz bytes z l c => mks2 esz bytes z (evs e l) (evs e c) h
  | .mkm => some (.mp h.length, h ++ [some (.map [])])
  | .lkp kk z ok m k => ph h (lkp2 kk z ok (evs e m) (evs e k) h)
  | .mup kk m k v => uns h (mup2 kk (evs e m) (evs e k) (evs e v) h)
  | .mkf f first cap => if (first.map (evs e)).all sptr ∧ (cap.map (evs e)).all sptr then some (.fn f (first.map (evs e)) (cap.map (evs e)), h) else none
  | .len k x => ph h (len2 k (evs e x) h)
  | .app esz bytes s x => app2 esz bytes (evs e s) (evs e x) h
  | .cpy esz d s => cpy2 esz (evs e d) (evs e s) h
  | .mn l => ph h (match scs (l.map (evs e)) with | some (x :: r) => (amins x r).map usc | _ => none)
  | .mx l => ph h (match scs (l.map (evs e)) with | some (x :: r) => (amaxs x r).map usc | _ => none)
  | .del kk m k => uns h (del2 kk (evs e m) (evs e k) h)
  | .clr esz z x => clr2 esz z (evs e x) h
  | _ => none
end Go.Proofs.Ytpgoemmjhnnmoaa.Ab
