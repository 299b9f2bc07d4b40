/- Proved in the end (in the last text of this claim): the law of this seat returns true at every input that fits, and each argument reads behind the call as before. This text: part 1 of the proof: a pure interpreter of the code, shown sound once, and the walks of the functions by rewriting. -/
import Derived.Calls
import GoSem.ClaimData
import GoSem.Core.Region
import Derived.Laws.Rows
import Derived.Laws.AppendOwn
import Derived.Laws.CopyRow
import Derived.Laws.IdiomCopy
import Derived.Tactics
import Derived.Laws.StructEq
import Derived.Laws.Strings
import Derived.Laws.Cover1
import Derived.Laws.BytesString
set_option linter.unusedSimpArgs false
set_option linter.unusedVariables false
/- The pure interpreter: Go code over values without memory. Slices are lists, pointers are numbers of boxes. Definitions only. -/
namespace Go.Sim

/-- A value without memory. `ptr b o`: cell o of box b of the state. `eptr cs o`: cell o of an element of a slice. `sl sz nl own xs`: a slice whose elements (sz cells each) are xs; nl: it is nil; own: nobody else sees the room behind it. `msl sz full b o n`: n elements of sz cells, from cell o of box b on; full: there is no room behind them. -/
inductive PV where
  | bool (b : Bool)
  | int (k : IntKind) (n : Int)
  | str (s : List UInt8)
  | nilp
  | ptr (b off : Nat)
  | eptr (cells : List PV) (off : Nat)
  | sl (sz : Nat) (nl own : Bool) (xs : List PV)
  | msl (sz : Nat) (full : Bool) (b off n : Nat)
  | agg (cs : List PV)
  | tup (vs : List PV)
  | fn (f : FuncId)
  | con (i : Nat)
  | undef

abbrev Env := List PV
abbrev St := List (List PV)

namespace PV

def cells : PV → List PV
  | .agg cs => cs
  | v => [v]

/-- Without the right to the room behind a slice. -/
def dem1 : PV → PV
  | .sl sz nl _ xs => .sl sz nl false xs
  | v => v
def dem2 : PV → PV
  | .agg cs => .agg (cs.map dem1)
  | v => dem1 v
def dem : PV → PV
  | .tup vs => .tup (vs.map dem2)
  | v => dem2 v

/-- What a row of a slice may hold. -/
def plain1 : PV → Bool
  | .bool _ | .int .. | .str _ | .nilp | .con _ => true
  | .sl _ _ own _ => !own
  | _ => false
/-- What a box may hold that crosses a call. -/
def flat1 : PV → Bool
  | .bool _ | .int .. | .str _ | .nilp | .con _ | .sl .. => true
  | _ => false
/-- What a box may hold at all. -/
def store1 : PV → Bool
  | .agg _ | .tup _ | .undef => false
  | _ => true
/-- What an argument or result may be, beside pointers. -/
def flat : PV → Bool
  | .agg cs => cs.all flat1
  | .eptr .. | .fn _ => true
  | v => flat1 v

/-- Box n + i is what box l[i] was; boxes below n stay; the others are forgotten. -/
def scrubId (n : Nat) (l : List Nat) (b : Nat) : Option Nat := if b < n then some b else if l.contains b then some (n + l.idxOf b) else none
def scrub1 (n : Nat) (l : List Nat) : PV → PV
  | .ptr b o => match scrubId n l b with | some b => .ptr b o | none => .undef
  | .msl sz fl b o k => match scrubId n l b with | some b => .msl sz fl b o k | none => .undef
  | v => v
def scrub2 (n : Nat) (l : List Nat) : PV → PV
  | .agg cs => if cs.all flat1 then .agg cs else .undef
  | v => scrub1 n l v
def scrub (n : Nat) (l : List Nat) : PV → PV
  | .tup vs => .tup (vs.map (scrub2 n l))
  | v => scrub2 n l v

/-- New boxes (from k on) that values lead to, in order. -/
def newBoxes (k : Nat) : List PV → List Nat → List Nat
  | [], l => l
  | .ptr b _ :: r, l => if b < k ∨ l.contains b then newBoxes k r l else newBoxes k r (l ++ [b])
  | .msl _ _ b _ _ :: r, l => if b < k ∨ l.contains b then newBoxes k r l else newBoxes k r (l ++ [b])
  | _ :: r, l => newBoxes k r l

def zeroBytes : PV → Bool
  | .int .u8 0 => true
  | _ => false

/-- The value of a cell's constant. -/
def ofVal1 : Value → Option PV
  | .bool b => some (.bool b)
  | .int k n => some (.int k n)
  | .string s => some (.str s.data.toList)
  | .pointer none => some .nilp
  | .slice none 0 0 => some (.sl 0 true true [])
  | .nilFunc => some (.con 0)
  | .nilIface => some (.con 1)
  | .map none => some (.con 2)
  | _ => none
def ofVals : List Value → Option (List PV)
  | [] => some []
  | v :: r => (ofVal1 v).bind fun x => (ofVals r).map (x :: ·)
def ofVal : Value → Option PV
  | .agg cs => (ofVals cs.toList).map .agg
  | v => ofVal1 v

def asInt : PV → Option Int
  | .int _ n => some n
  | _ => none
def asInts : PV → Option (IntKind × Int)
  | .int k n => some (k, n)
  | _ => none

end PV

open PV

/-- The value of an operand. -/
def peval (e : Env) : Operand → Option PV
  | .tmp t => e[t]?
  | .const v => ofVal v
  | .func f => some (.fn f)
  | .global _ => none

def pbits (k : IntKind) (f : BitVec k.bits → BitVec k.bits → BitVec k.bits) (a b : Int) : PV :=
  .int k (k.wrap (f (BitVec.ofInt k.bits a) (BitVec.ofInt k.bits b)).toNat)

def pint (op : BinOp) (k : IntKind) (a b : Int) : Option PV :=
  match op with
  | .add => some (.int k (k.wrap (a + b)))
  | .sub => some (.int k (k.wrap (a - b)))
  | .mul => some (.int k (k.wrap (a * b)))
  | .quo => if b = 0 then none else some (.int k (k.wrap (a.tdiv b)))
  | .rem => if b = 0 then none else some (.int k (a.tmod b))
  | .and => some (pbits k (· &&& ·) a b)
  | .or => some (pbits k (· ||| ·) a b)
  | .xor => some (pbits k (· ^^^ ·) a b)
  | .andNot => some (pbits k (fun x y => x &&& ~~~y) a b)
  | .eql => some (.bool (a == b))
  | .neq => some (.bool (a != b))
  | .lss => some (.bool (a < b))
  | .leq => some (.bool (a ≤ b))
  | .gtr => some (.bool (a > b))
  | .geq => some (.bool (a ≥ b))
  | .shl | .shr => none

def pshift (op : BinOp) (k : IntKind) (a b : Int) : Option PV :=
  if b < 0 then none else
  match op with
  | .shl => some (.int k (k.wrap (a * 2 ^ (min b.toNat k.bits))))
  | .shr => some (.int k (a.fdiv (2 ^ (min b.toNat k.bits))))
  | _ => none

def pstr (op : BinOp) (a b : List UInt8) : Option PV :=
  match op with
  | .add => if a.length + b.length ≤ 9223372036854775807 then some (.str (a ++ b)) else none
  | .eql => some (.bool (a == b))
  | .neq => some (.bool !(a == b))
  | .lss => some (.bool (Op.bytesLess a b))
  | .leq => some (.bool (Op.bytesLess a b || a == b))
  | .gtr => some (.bool !(Op.bytesLess a b || a == b))
  | .geq => some (.bool !(Op.bytesLess a b))
  | _ => none

def isAggB (P : Program) (t : TypeId) : Option Bool :=
  match P.underlying t with
  | some (.struct _) | some (.array _ _) => some true
  | some _ => some false
  | none => none

/-- The value of type t in cells from o on. -/
def takeVar (P : Program) (t : TypeId) (cs : List PV) (o : Nat) : Option PV :=
  match isAggB P t, P.info? t with
  | some true, some i => if o + i.size ≤ cs.length then some (.agg ((cs.drop o).take i.size)) else none
  | some false, some _ => cs[o]?
  | _, _ => none

def peqFields (P : Program) (eq : TypeId → PV → PV → Option Bool) (xs ys : List PV) : List Field → Option Bool
  | [] => some true
  | f :: fs => if f.name = "_" then none else
    (takeVar P f.type xs f.offset).bind fun a => (takeVar P f.type ys f.offset).bind fun b => (eq f.type a b).bind fun r => if r then peqFields P eq xs ys fs else some false

/-- == of values of a type. -/
def peqIn (P : Program) : Nat → TypeId → PV → PV → Option Bool
  | 0, _, _, _ => none
  | d + 1, t, x, y =>
    match P.underlying t with
    | some .bool => match x, y with
      | .bool a, .bool b => some (a == b)
      | _, _ => none
    | some (.int _) => match x, y with
      | .int j a, .int k b => if j = k then some (a == b) else none
      | _, _ => none
    | some .string => match x, y with
      | .str a, .str b => some (a == b)
      | _, _ => none
    | some (.pointer _) => match x, y with
      | .nilp, .nilp => some true
      | .nilp, .ptr .. | .ptr .., .nilp | .nilp, .eptr .. | .eptr .., .nilp => some false
      | _, _ => none
    | some (.slice _) => match x, y with
      | .sl _ nl _ _, .sl 0 true true [] => some nl
      | .msl .., .sl 0 true true [] => some false
      | _, _ => none
    | some (.struct fs) => match x, y with
      | .agg xs, .agg ys => if P.stoodInHeld t then none else peqFields P (peqIn P d) xs ys fs.toList
      | _, _ => none
    | _ => none

/-- May a value of this type be compared as it stands? -/
def eqFree (P : Program) (t : TypeId) : PV → Bool
  | .agg _ => !P.eqGuardType P.depth t
  | .con _ => false
  | _ => true

def pbin (P : Program) (op : BinOp) (t : TypeId) (x y : PV) : Option PV :=
  match x, y with
  | .int j a, .int k b =>
    match op with
    | .shl | .shr => pshift op j a b
    | _ => if j = k then pint op j a b else none
  | .str a, .str b => pstr op a b
  | _, _ =>
    match op with
    | .eql => if eqFree P t x then (peqIn P 10000 t x y).map .bool else none
    | .neq => if eqFree P t x then (peqIn P 10000 t x y).map fun b => .bool !b else none
    | _ => none

def pun (op : UnOp) (x : PV) : Option PV :=
  match op, x with
  | .neg, .int k n => some (.int k (k.wrap (0 - n)))
  | .xor, .int k n => some (pbits k (· ^^^ ·) (if k.signed then -1 else k.max) n)
  | .not, .bool b => some (.bool !b)
  | _, _ => none

def setCells {α : Type} (cs : List α) (o : Nat) : List α → List α
  | [] => cs
  | v :: r => setCells (cs.set o v) (o + 1) r

def demCells (cs : List PV) (o n : Nat) : List PV := cs.take o ++ ((cs.drop o).take n).map dem1 ++ cs.drop (o + n)

def byteOf : PV → Option UInt8
  | .int .u8 n => some (UInt8.ofNat n.toNat)
  | _ => none
def bytesOf : List PV → Option (List UInt8)
  | [] => some []
  | v :: r => (byteOf v).bind fun b => (bytesOf r).map (b :: ·)
def ofBytes (s : List UInt8) : List PV := s.map fun b => .int .u8 b.toNat

/-- Elements out of cells. -/
def chunks (agg : Bool) (sz : Nat) : Nat → List PV → List PV
  | 0, _ => []
  | n + 1, cs => (if agg then .agg (cs.take sz) else cs.headD .undef) :: chunks agg sz n (cs.drop sz)

def fillCells (place : Nat → Option (Nat × Nat)) (cells : List PV) : List (Nat × PV) → Option (List PV)
  | [] => some cells
  | (i, v) :: rest =>
    match place i with
    | none => none
    | some (off, size) =>
      if v.cells.length = size ∧ off + size ≤ cells.length ∧ v.cells.all store1 then fillCells place (setCells cells off v.cells) rest else none

def zeroCellsOf (P : Program) (t : TypeId) : Option (List PV) :=
  (P.info? t).bind fun i => i.zero.bind fun z => (ofVal z).map cells

def pbuild (P : Program) (t : TypeId) (parts : List (Nat × PV)) : Option PV :=
  (zeroCellsOf P t).bind fun z =>
  match P.underlying t with
  | some (.struct fs) => (fs.toList.mapM fun f => (P.info? f.type).map fun i => (f.offset, i.size)).bind fun places => (fillCells (places[·]?) z parts).map .agg
  | some (.array _ e) => (P.info? e).bind fun j => (fillCells (fun i => some (i * j.size, j.size)) z parts).map .agg
  | _ => none

def elemOf (P : Program) (t : TypeId) : Option TypeId :=
  match P.underlying t with
  | some (.slice e) => some e
  | _ => none

def pbuildSlice (P : Program) (t : TypeId) (len : Nat) (parts : List (Nat × PV)) : Option PV :=
  (elemOf P t).bind fun e => (P.info? e).bind fun j => (isAggB P e).bind fun ag => (zeroCellsOf P e).bind fun z =>
  if j.size = 0 ∨ (ag = false ∧ j.size ≠ 1) ∨ len * j.size > 2 ^ 24 ∨ len > maxLen ∨ z.length ≠ j.size then none else
  (fillCells (fun i => some (i * j.size, j.size)) (List.replicate len z).flatten (parts.map fun p => (p.1, p.2.dem))).bind fun cs =>
  if cs.all (fun c => plain1 (dem1 c)) then some (.sl j.size false true (chunks ag j.size len (cs.map dem1))) else none

def sliceB (x : Option PV) (dflt hi : Nat) : Option Nat :=
  match x with
  | none => some dflt
  | some (.int _ i) => if 0 ≤ i ∧ i ≤ hi then some i.toNat else none
  | _ => none

/-- x[low:high]; an upper bound beyond the length is not taken. -/
def pslice (P : Program) (t : TypeId) (x : PV) (low high : Option PV) : Option PV :=
  match x with
  | .str s => match P.underlying t with
    | some .string => (sliceB high s.length s.length).bind fun h => (sliceB low 0 h).map fun l => .str ((s.take h).drop l)
    | _ => none
  | .sl sz nl _ xs => (elemOf P t).bind fun e => (P.info? e).bind fun j =>
      if j.size = sz ∨ xs = [] then (sliceB high xs.length xs.length).bind fun h => (sliceB low 0 h).map fun l => .sl sz nl false ((xs.take h).drop l) else none
  | .msl sz fl b o n => (elemOf P t).bind fun e => (P.info? e).bind fun j =>
      if j.size = sz then (sliceB high n n).bind fun h => (sliceB low 0 h).bind fun l => if l < n ∨ l = 0 then some (.msl sz (fl && decide (h = n)) b (o + l * sz) (h - l)) else none else none
  | _ => none

def pconvert (P : Program) (src dst : TypeId) (x : PV) : Option PV :=
  match P.underlying dst, x with
  | some (.int k), .int _ n => some (.int k (k.wrap n))
  | some .string, .str s => some (.str s)
  | some .string, .sl sz _ _ xs =>
    match P.underlying src with
    | some (.slice e) => match P.underlying e with
      | some (.int .u8) => if sz = 1 ∨ xs = [] then (bytesOf xs).map .str else none
      | _ => none
    | _ => none
  | some (.slice e), .str s => match P.underlying e with
      | some (.int .u8) => if s.length ≤ maxLen then some (.sl 1 false false (ofBytes s)) else none
      | _ => none
  | _, _ => none

def pindexAt (P : Program) (t : TypeId) (x : PV) (i : Int) : Option PV :=
  match P.underlying t, x with
  | some (.slice e), .sl sz _ _ xs => (P.info? e).bind fun j =>
      if 0 ≤ i ∧ i < xs.length ∧ j.size = sz then (xs[i.toNat]?).map fun v => .eptr v.cells 0 else none
  | some (.slice e), .msl sz _ b o n => (P.info? e).bind fun j =>
      if 0 ≤ i ∧ i < n ∧ j.size = sz then some (.ptr b (o + i.toNat * sz)) else none
  | some (.array n e), .ptr b o => (P.info? e).bind fun j => if 0 ≤ i ∧ i < n then some (.ptr b (o + i.toNat * j.size)) else none
  | some (.array n e), .eptr cs o => (P.info? e).bind fun j => if 0 ≤ i ∧ i < n then some (.eptr cs (o + i.toNat * j.size)) else none
  | _, _ => none

def pindex (P : Program) (t : TypeId) (x : PV) (i : Int) : Option PV :=
  match P.underlying t, x with
  | some .string, .str s => if 0 ≤ i then (s[i.toNat]?).map fun b => .int .u8 b.toNat else none
  | some (.array n e), .agg cs => (P.info? e).bind fun j => if 0 ≤ i ∧ i < n then takeVar P e cs (i.toNat * j.size) else none
  | _, _ => none

def pfieldAt (P : Program) (t : TypeId) (x : PV) (f : Nat) : Option PV :=
  match P.underlying t with
  | some (.struct fs) => (fs[f]?).bind fun g => (P.info? g.type).bind fun j =>
    if j.size = 0 then none else
    match x with
    | .ptr b o => some (.ptr b (o + g.offset))
    | .eptr cs o => some (.eptr cs (o + g.offset))
    | _ => none
  | _ => none

def pfield (P : Program) (t : TypeId) (x : PV) (f : Nat) : Option PV :=
  match P.underlying t, x with
  | some (.struct fs), .agg cs => (fs[f]?).bind fun g => takeVar P g.type cs g.offset
  | _, _ => none

/-- The elements of what is appended. -/
def pelems (st : St) (sz : Nat) : PV → Option (List PV)
  | .sl z _ _ ys => if z = sz ∨ ys = [] then some ys else none
  | .str s => if sz = 1 then some (ofBytes s) else none
  | .msl z _ b o n => if z = 1 ∧ sz = 1 then (st[b]?).bind fun cs => if ((cs.drop o).take n).all (fun c => plain1 (dem1 c)) then some (((cs.drop o).take n).map dem1) else none else none
  | _ => none

/-- append onto a written slice that is full: nothing, or a new box. -/
def pappendW (P : Program) (t : TypeId) (st : St) (x y : PV) : Option (PV × St) :=
  (elemOf P t).bind fun e => (P.info? e).bind fun j =>
  match x with
  | .msl 1 true b o n => (pelems st j.size y).bind fun ys => (st[b]?).bind fun cs => (zeroCellsOf P e).bind fun z =>
    if z.length = j.size ∧ ((cs.drop o).take n).all (fun c => plain1 (dem1 c)) = true ∧ ys.all plain1 = true ∧ j.size = 1 ∧ n + ys.length ≤ maxLen ∧ (n + ys.length) * j.bytes ≤ 140737488355328 then
      if ys = [] then some (.msl 1 true b o n, st)
      else some (.msl 1 false st.length 0 (n + ys.length), st ++ [((cs.drop o).take n).map dem1 ++ ys])
    else none
  | _ => none

def pappend (P : Program) (t : TypeId) (st : St) (x y : PV) : Option PV :=
  (elemOf P t).bind fun e => (P.info? e).bind fun j =>
  match x with
  | .sl sz nl own xs => (pelems st j.size y).bind fun ys => (zeroCellsOf P e).bind fun z =>
    if z.length = j.size ∧ own = true ∧ (sz = j.size ∨ (xs = [] ∧ nl = true)) ∧ j.size ≠ 0 ∧ xs.length + ys.length ≤ maxLen ∧ (xs.length + ys.length) * j.bytes ≤ 140737488355328
    then some (.sl j.size (nl && ys.isEmpty) true (xs ++ ys)) else none
  | _ => none

def pbuiltin (P : Program) (b : Builtin) (ts : Array TypeId) (st : St) (args : List PV) : Option PV :=
  match b, args with
  | .len, [x] =>
    match ts.toList with
    | [t] => match P.underlying t, x with
      | some .string, .str s => some (.int .i64 s.length)
      | some (.slice _), .sl _ _ _ xs => some (.int .i64 xs.length)
      | some (.slice _), .msl _ _ _ _ n => some (.int .i64 n)
      | _, _ => none
    | _ => none
  | .append, [x, y] =>
    match ts.toList with
    | [t, u] => match P.underlying u with
      | some (.int _) => none
      | some _ => pappend P t st x y
      | none => none
    | _ => none
  | .min, [.int k a, .int j b] => if k = j then some (.int k (if b < a then b else a)) else none
  | .max, [.int k a, .int j b] => if k = j then some (.int k (if b > a then b else a)) else none
  | _, _ => none

/-- The boxes that a call is handed: box, first cell, number of cells. -/
abbrev Lent := Nat × Nat × Nat

def passOne (P : Program) (st : St) (t : TypeId) (v : PV) (ls : List Lent) : Option (PV × List Lent) :=
  match v with
  | .ptr b o =>
    match P.underlying t with
    | some (.pointer e) => (P.info? e).bind fun j => (st[b]?).bind fun cs =>
      if o + j.size ≤ cs.length ∧ j.size ≠ 0 ∧ ls.all (fun l => l.1 != b) ∧ ((cs.drop o).take j.size).all flat1 then some (.ptr ls.length 0, ls ++ [(b, o, j.size)]) else none
    | _ => none
  | v => if v.flat then some (v, ls) else none

def passAll (P : Program) (st : St) : List TypeId → List PV → List Lent → Option (List PV × List Lent)
  | t :: ts, v :: vs, ls => (passOne P st t v ls).bind fun (v', ls') => (passAll P st ts vs ls').map fun (r, l) => (v' :: r, l)
  | [], [], ls => some ([], ls)
  | _, _, _ => none

def lentCells (st : St) (l : Lent) : List PV := (((st.getD l.1 []).drop l.2.1).take l.2.2)

def backOne (ls : List Lent) (base k : Nat) : PV → PV
  | .ptr b o => if b < k then (match ls[b]? with | some l => .ptr l.1 (l.2.1 + o) | none => .undef) else .ptr (base + (b - k)) o
  | v => v
def back (ls : List Lent) (base k : Nat) : PV → PV
  | .tup vs => .tup (vs.map (backOne ls base k))
  | v => backOne ls base k v

def giveBack (st : St) : List Lent → List (List PV) → St
  | l :: ls, b :: bs => giveBack (st.set l.1 (setCells (st.getD l.1 []) l.2.1 b)) ls bs
  | _, _ => st

/-- It leads to boxes below k alone. -/
def noNew1 (k : Nat) : PV → Bool
  | .ptr b _ => decide (b < k)
  | _ => true
def noNew (k : Nat) : PV → Bool
  | .tup vs => vs.all (noNew1 k)
  | v => noNew1 k v

abbrev Oracle := FuncId → List PV → List (List PV) → Option (PV × List (List PV))

/-- A call. fresh: new boxes may come back. -/
def pcallOp (P : Program) (C : Oracle) (fresh : Bool) (f : FuncId) (ts : List TypeId) (args : List PV) (st : St) : Option (PV × St) :=
  (passAll P st ts args []).bind fun (as, ls) =>
  (C f as (ls.map (lentCells st))).bind fun (v, bx) =>
  if fresh || (decide (bx.length = ls.length) && noNew ls.length v) then some (back ls st.length ls.length v, giveBack st ls bx ++ bx.drop ls.length) else none

structure Hint where
  /-- temporaries whose `move` or `load` takes the room with it -/
  take : List Tmp := []
  /-- temporaries that are slices to be written -/
  wr : List Tmp := []
  /-- variables whose boxes, made in a loop, outlive the round -/
  carry : List Tmp := []
  /-- temporaries that are read in more than one region; the others are forgotten behind a region (none: all are kept) -/
  mask : List Bool := []
  /-- the same, behind a choice: what was asked is forgotten -/
  cmask : List Bool := []
  /-- of a loop, by its first region: what is still wanted at its head -/
  lm : List (Nat × List Bool) := []

def pargs (ρ : Operand → Option PV) : List Operand → Option (List PV)
  | [] => some []
  | x :: r => (ρ x).bind fun v => (pargs ρ r).map (v :: ·)

def tmpOf : Operand → List (Tmp × Option Nat)
  | .tmp t => [(t, none)]
  | _ => []

/-- No temporary twice. -/
def okTake (os : List Operand) : Bool := decide ((os.flatMap tmpOf).map (·.1)).Nodup

/-- The room goes with it. -/
def takes (h : Hint) (o : Oper) : Bool := match o.dst with | some d => h.take.contains d | none => false
/-- It is a slice to be written. -/
def writes (h : Hint) (o : Oper) : Bool := match o.dst with | some d => h.wr.contains d | none => false

def osem (P : Program) (C : Oracle) (h : Hint) (fresh : Bool) (o : Oper) (ρ : Operand → Option PV) (st : St) : Option (PV × St) :=
  match o.op with
  | .assign x => (ρ x).map fun v => (v, st)
  | .move x => (ρ x).map fun v => (if takes h o then v else v.dem, st)
  | .pick c a b => match ρ c with
    | some (.bool t) => (ρ (if t then a else b)).map fun v => (v.dem, st)
    | _ => none
  | .alloc t => (zeroCellsOf P t).map fun cs => (.ptr st.length 0, st ++ [cs])
  | .box t x => (ρ x).bind fun v => if v.cells.all store1 then some (.ptr st.length 0, st ++ [v.cells]) else none
  | .build t ps => if okTake (ps.toList.map (·.2)) = false then none else (pargs ρ (ps.toList.map (·.2))).bind fun l => (pbuild P t ((ps.toList.map (·.1)).zip l)).map fun v => (v, st)
  | .buildSlice t n ps => (pargs ρ (ps.toList.map (·.2))).bind fun l => (pbuildSlice P t n ((ps.toList.map (·.1)).zip l)).bind fun v =>
    if writes h o then (match v with
      | .sl 1 _ _ xs => if xs.all plain1 then some (.msl 1 true st.length 0 xs.length, st ++ [xs]) else none
      | _ => none)
    else some (v, st)
  | .load t x => match ρ x with
    | some (.ptr b k) => (st[b]?).bind fun cs => (takeVar P t cs k).map fun v => if takes h o then (v, st.set b (demCells cs k v.cells.length)) else (v.dem, st)
    | some (.eptr cs k) => (takeVar P t cs k).map fun v => (v.dem, st)
    | _ => none
  | .store t x y => match ρ x, ρ y, P.info? t with
    | some (.ptr b k), some v, some i => (st[b]?).bind fun cs =>
      if v.cells.length = i.size ∧ k + i.size ≤ cs.length ∧ v.cells.all store1 then some (.undef, st.set b (setCells cs k v.cells)) else none
    | _, _, _ => none
  | .nilCheck x => match ρ x with
    | some (.ptr b k) => some (.ptr b k, st)
    | some (.eptr cs k) => some (.eptr cs k, st)
    | some (.fn f) => some (.fn f, st)
    | _ => none
  | .binOp op t x y _ => (ρ x).bind fun a => (ρ y).bind fun b => (pbin P op t a b).map fun v => (v, st)
  | .unOp op _ x => (ρ x).bind fun a => (pun op a).map fun v => (v, st)
  | .convert s d x => (ρ x).bind fun a => if (P.underlying s).isNone then none else
    if writes h o then (match P.underlying d, a with
      | some (.slice e), .str s => match P.underlying e with
        | some (.int .u8) => if s.length ≤ maxLen then some (.msl 1 false st.length 0 s.length, st ++ [ofBytes s]) else none
        | _ => none
      | _, _ => none)
    else match a with
      | .msl 1 _ b k n => (match P.underlying d, P.underlying s with
        | some .string, some (.slice e) => match P.underlying e with
          | some (.int .u8) => (st[b]?).bind fun cs => (bytesOf ((cs.drop k).take n)).map fun v => (.str v, st)
          | _ => none
        | _, _ => none)
      | a => (pconvert P s d a).map fun v => (v, st)
  | .makeSlice t l c => match (ρ l).bind PV.asInt, (ρ c).bind PV.asInt, elemOf P t with
    | some l, some c, some e => (P.info? e).bind fun j => (zeroCellsOf P e).bind fun z => (isAggB P e).bind fun ag =>
      if 0 ≤ l ∧ l ≤ c ∧ c ≤ 4294967296 ∧ c * j.bytes ≤ 140737488355328 ∧ j.size ≠ 0 ∧ (ag = true ∨ j.size = 1) ∧ z.length = j.size ∧ z.all (fun c => plain1 (dem1 c)) then
        if writes h o then some (.msl j.size false st.length 0 l.toNat, st ++ [(List.replicate c.toNat z).flatten])
        else some (.sl j.size false true (List.replicate l.toNat (if ag then .agg (z.map dem1) else dem1 (z.headD .undef))), st)
      else none
    | _, _, _ => none
  | .slice t x lo hi none => (ρ x).bind fun a =>
      match lo.map ρ, hi.map ρ with
      | some none, _ => none
      | _, some none => none
      | l, h => (pslice P t a l.join h.join).map fun v => (v, st)
  | .fieldAddr t x f => (ρ x).bind fun a => (pfieldAt P t a f).map fun v => (v, st)
  | .field t x f => (ρ x).bind fun a => (pfield P t a f).map fun v => (v.dem, st)
  | .indexAddr t x i => (ρ x).bind fun a => ((ρ i).bind PV.asInt).bind fun n => (pindexAt P t a n).map fun v => (v, st)
  | .index t x i => (ρ x).bind fun a => ((ρ i).bind PV.asInt).bind fun n => (pindex P t a n).map fun v => (v.dem, st)
  | .extract x i => match ρ x with
    | some (.tup vs) => (vs[i]?).map fun v => (v, st)
    | _ => none
  | .call c => (pargs ρ c.args.toList).bind fun args =>
    match c.callee with
    | .builtin b =>
      if writes h o then (match b, c.argTypes.toList, args with
        | .append, [t, u], [x, y] => (match P.underlying u with | some (.slice _) => pappendW P t st x y | _ => none)
        | _, _, _ => none)
      else (pbuiltin P b c.argTypes st args).map fun v => (v, st)
    | .value f => match ρ f with
      | some (.fn g) => if okTake c.args.toList = false then none else (P.funcs[g]?).bind fun fn => pcallOp P C fresh g fn.params.toList args st
      | _ => none
    | .invoke .. => none
  | _ => none

/-- Temporaries that lose the room of their slices by an operation (one component alone: of a tuple). -/
def sheds (h : Hint) (o : Oper) : List (Tmp × Option Nat) :=
  match o.op with
  | .assign x => tmpOf x
  | .move x => if takes h o then tmpOf x else []
  | .box _ x => tmpOf x
  | .store _ _ x => tmpOf x
  | .build _ ps => (ps.toList.map (·.2)).flatMap tmpOf
  | .extract x i => match x with | .tmp t => [(t, some i)] | _ => []
  | .call c => match c.callee with
    | .builtin .append => (c.args.toList.take 1).flatMap tmpOf
    | .builtin _ => []
    | _ => c.args.toList.flatMap tmpOf
  | _ => []

def shed (e : Env) : List (Tmp × Option Nat) → Env
  | [] => e
  | (t, none) :: r => shed (match e[t]? with | some v => e.set t v.dem | none => e) r
  | (t, some i) :: r => shed (match e[t]? with | some (.tup vs) => e.set t (.tup (vs.modify i dem2)) | _ => e) r

def setDst (e : Env) (d : Option Tmp) (v : PV) : Env :=
  match d with
  | some d => e.set d v
  | none => e

/-- Is the operation wanted? none: its guard's test has no value. -/
def pwanted (ops : Array Oper) (e : Env) (o : Oper) : Option Bool :=
  match o.guard with
  | none => some true
  | some (j, want) => match (ops[j]?).bind (·.dst) with
    | some t => match e[t]? with
      | some (.bool b) => some (b == want)
      | some (.tup []) => some false
      | _ => none
    | none => none

def pop (P : Program) (C : Oracle) (h : Hint) (fresh : Bool) (ops : Array Oper) (o : Oper) (e : Env) (st : St) : Option (Env × St) :=
  match pwanted ops e o with
  | some true => (osem P C h fresh o (peval e) st).map fun (v, st') => (setDst (shed e (sheds h o)) o.dst v, st')
  | some false => some (setDst e o.dst (.tup []), st)
  | none => none

def pops (P : Program) (C : Oracle) (h : Hint) (fresh : Bool) (ops : Array Oper) : List Oper → Env → St → Option (Env × St)
  | [], e, st => some (e, st)
  | o :: r, e, st => (pop P C h fresh ops o e st).bind fun (e', st') => pops P C h fresh ops r e' st'

/-- What is kept behind a region. -/
def keepE : List Bool → Env → Env
  | true :: m, v :: e => v :: keepE m e
  | false :: m, _ :: e => .undef :: keepE m e
  | _, e => e

/-- What of a value matters for the order of operations. -/
inductive Hd where
  | ptr (b : Nat)
  | eptr
  | msl
  | other
  deriving DecidableEq
def hd : PV → Hd
  | .ptr b _ => .ptr b
  | .eptr .. => .eptr
  | .msl .. => .msl
  | _ => .other
def hdOf (e : List Hd) : Operand → Hd
  | .tmp t => e.getD t .other
  | _ => .other

/-- What an operation does to boxes: it reads rs and writes ws; or it makes one. -/
inductive Kd where
  | loc (rs ws : List Nat)
  | new
def boxOf : Hd → List Nat
  | .ptr b => [b]
  | _ => []
/-- The operands on which that depends. -/
def kdOpers (o : Oper) : List Operand :=
  match o.op with
  | .load _ x => [x]
  | .store _ x _ => [x]
  | .convert _ _ x => [x]
  | .call c => c.args.toList
  | _ => []
def kd (h : Hint) (e : List Hd) (o : Oper) : Option Kd :=
  match o.op with
  | .assign _ | .move _ | .pick .. | .build .. | .nilCheck _ | .binOp .. | .unOp .. | .fieldAddr .. | .field .. | .indexAddr .. | .index .. | .extract .. => some (.loc [] [])
  | .slice _ _ _ _ none => some (.loc [] [])
  | .buildSlice .. | .makeSlice .. => if writes h o then none else some (.loc [] [])
  | .convert _ _ x => if writes h o || decide (hdOf e x = .msl) then none else some (.loc [] [])
  | .load _ x => some (.loc (boxOf (hdOf e x)) (if takes h o then boxOf (hdOf e x) else []))
  | .store _ x _ => some (.loc (boxOf (hdOf e x)) (boxOf (hdOf e x)))
  | .alloc _ => some .new
  | .call c => match c.callee with
    | .builtin b => if writes h o || c.args.toList.any (fun x => decide (hdOf e x = .msl)) then none else some (.loc [] [])
    | .value _ => some (.loc (c.args.toList.flatMap fun x => boxOf (hdOf e x)) (c.args.toList.flatMap fun x => boxOf (hdOf e x)))
    | .invoke .. => none
  | _ => none
def disj (a b : List Nat) : Bool := a.all fun x => !b.contains x
def kdApart (b0 : Option Nat) : Kd → Kd → Bool
  | .loc r w, .loc r' w' => disj w r' && disj w' r
  | .new, .loc r _ | .loc r _, .new => match b0 with | some b => !r.contains b | none => false
  | .new, .new => false

def opTmps (o : Oper) : List Tmp := o.op.operands.toList.filterMap fun | .tmp t => some t | _ => none
def guardTmps (ops : Array Oper) (o : Oper) : List Tmp := match o.guard with
  | some (j, _) => ((ops[j]?).bind (·.dst)).toList
  | none => []
/-- The temporaries that an operation reads; those that it writes. -/
def rdT (ops : Array Oper) (o : Oper) : List Tmp := opTmps o ++ guardTmps ops o
def wrT (h : Hint) (o : Oper) : List Tmp := o.dst.toList ++ (sheds h o).map (·.1)
/-- Two components of one tuple. -/
def twoParts (ops : Array Oper) (a b : Oper) : Bool :=
  match a.op, b.op, a.dst, b.dst with
  | .extract (.tmp t) i, .extract (.tmp u) j, some d, some d' => decide (t = u) && decide (i ≠ j) && decide (d ≠ d') && decide (d ≠ t) && decide (d' ≠ t) && !(guardTmps ops a).contains t && !(guardTmps ops b).contains t && !(guardTmps ops a).contains d' && !(guardTmps ops b).contains d
  | _, _, _, _ => false
def envApart (h : Hint) (ops : Array Oper) (a b : Oper) : Bool := twoParts ops a b || (disj (wrT h a) (rdT ops b ++ wrT h b) && disj (wrT h b) (rdT ops a ++ wrT h a))

/-- Of each operation: the operations that come before it in any order, as bits. -/
def edgesOf (o : Oper) : List Nat := (o.after.toList.filter (Region.binds .any)).map (·.on)
def beforeMask (acc : List Nat) (o : Oper) : Nat := (edgesOf o).foldl (fun s i => s ||| 2 ^ i ||| acc.getD i 0) 0
def befores : List Oper → List Nat → List Nat
  | [], acc => acc
  | o :: r, acc => befores r (acc ++ [beforeMask acc o])

/-- Each edge leads to an operation that lies before, by an order of positions. -/
def wellBased (md : Region.Mode) (ops : Array Oper) (pos : Nat → Nat) : Bool :=
  (List.range ops.size).all fun i => ((ops[i]?).map fun o => o.after.toList.all fun e => !Region.binds md e || (decide (e.on < ops.size) && decide (pos e.on < pos i))).getD true

def gcPos (ops : Array Oper) : Nat → Nat := let l := Region.linearise .gc ops 0; fun i => l.idxOf i

/-- Whoever writes what decides on boxes comes before. -/
def steady (ops : Array Oper) (bs : List Nat) (i : Nat) (ts : List Tmp) : Bool :=
  (List.range ops.size).all fun k => match (ops[k]?).bind (·.dst) with
    | some d => !ts.contains d || (bs.getD i 0).testBit k
    | none => true
def kdTmps (o : Oper) : List Tmp := (kdOpers o).filterMap fun | .tmp t => some t | _ => none
def soleDst (ops : Array Oper) (i : Nat) (o : Oper) : Bool :=
  match o.op, o.dst with
  | .alloc _, some d => (List.range ops.size).all fun k => k == i || (ops[k]?).bind (·.dst) != some d
  | .alloc _, none => false
  | _, _ => true

/-- The box that an operation made. -/
def madeBox (e : List Hd) (o : Oper) : Option Nat :=
  match o.op, o.dst with
  | .alloc _, some d => match e[d]? with | some (.ptr b) => some b | _ => none
  | _, _ => none

def madeOf (ka : Kd) (x y : Option Nat) : Option Nat := match ka with | .new => x | _ => y

/-- May the operations be carried out in any order that their edges allow? What of it needs no values. -/
def drawStat (h : Hint) (ops : Array Oper) : Bool :=
  let bs := befores ops.toList []
  wellBased .text ops id && wellBased .any ops id && (!Region.departs ops || wellBased .gc ops (gcPos ops)) &&
  (List.range ops.size).all fun i => (((ops[i]?).map fun o => steady ops bs i (kdTmps o)).getD true) && ((ops[i]?).map fun o => soleDst ops i o).getD true &&
    (List.range i).all fun j => (bs.getD i 0).testBit j || match ops[j]?, ops[i]? with
      | some a, some b => envApart h ops a b
      | _, _ => true
/-- What of it needs the values, behind the region. -/
def drawDyn (h : Hint) (ops : Array Oper) (e : List Hd) : Bool :=
  let bs := befores ops.toList []
  (List.range ops.size).all fun i => ((ops[i]?).map fun o => (kd h e o).isSome).getD true && (List.range i).all fun j => (bs.getD i 0).testBit j || match ops[j]?, ops[i]? with
      | some a, some b => match kd h e a, kd h e b with
        | some ka, some kb => kdApart (madeOf ka (madeBox e a) (madeBox e b)) ka kb
        | _, _ => false
      | _, _ => true
def drawOk (h : Hint) (ops : Array Oper) (e : Env) : Bool := drawStat h ops && drawDyn h ops (e.map hd)

inductive PExit where
  | normal
  | exit (id : Nat)
  | ret

def scrubSt (n : Nat) (l : List Nat) (st : St) : St := (st.take n ++ l.map (st.getD · [])).map fun cs => cs.map (scrub1 n l)

/-- Rounds of a loop that began with k boxes. -/
def ploop (carry : List Tmp) (step : Env → St → Option (PExit × Env × St)) (k : Nat) : Nat → Env → St → Option (PExit × Env × St)
  | 0, _, _ => none
  | n + 1, e, st => (step e st).bind fun
    | (.normal, e', st') =>
      let l := newBoxes k (carry.map (e'.getD · .undef)) []
      ploop carry step k n (e'.map (scrub k l)) (scrubSt k l st')
    | r => some r

/-- The first region of a piece of code. -/
def firstId : Code → Nat
  | .region id _ _ => id
  | .seq a _ => firstId a
  | .cond _ a _ => firstId a
  | .block _ c => firstId c
  | .loop c => firstId c
  | _ => 0
def findMask : List (Nat × List Bool) → Nat → List Bool
  | [], _ => []
  | (i, m) :: r, k => if i = k then m else findMask r k

def pcode (P : Program) (C : Oracle) (h : Hint) (n : Nat) : Code → Env → St → Option (PExit × Env × St)
  | .skip, e, st => some (.normal, e, st)
  | .region _ ops draw, e, st =>
    (pops P C h (!draw) ops ops.toList e st).bind fun (e', st') => if draw && !drawOk h ops e' then none else some (.normal, keepE h.mask e', st')
  | .seq a b, e, st => (pcode P C h n a e st).bind fun
    | (.normal, e', st') => pcode P C h n b e' st'
    | r => some r
  | .cond c a b, e, st => match peval e c with
    | some (.bool true) => pcode P C h n a (keepE h.cmask e) st
    | some (.bool false) => pcode P C h n b (keepE h.cmask e) st
    | _ => none
  | .block id c, e, st => (pcode P C h n c e st).map fun
    | (.exit i, e', st') => if i = id then (.normal, e', st') else (.exit i, e', st')
    | r => r
  | .loop c, e, st => ploop h.carry (fun e st => pcode P C h n c (keepE (findMask h.lm (firstId c)) e) st) st.length n e st
  | .exit id, e, st => some (.exit id, e, st)
  | .ret, e, st => some (.ret, e, st)
  | _, _, _ => none

/-- The results of a function: each takes its room along. -/
def presults (P : Program) : Env → St → List ResultVar → Option (List PV × St)
  | _, st, [] => some ([], st)
  | e, st, .tmp t :: r => (e[t]?).bind fun v => (presults P (e.set t v.dem) st r).map fun (vs, s) => (v :: vs, s)
  | e, st, .cell a t :: r => match e[a]? with
    | some (.ptr b o) => (st[b]?).bind fun cs => (takeVar P t cs o).bind fun v => (presults P e (st.set b (demCells cs o v.cells.length)) r).map fun (vs, s) => (v :: vs, s)
    | _ => none

def outOne (k : Nat) (l : List Nat) : PV → PV
  | .ptr b o => if b < k then .ptr b o else .ptr (k + l.idxOf b) o
  | v => v

def outFlat : PV → Bool
  | .ptr .. => true
  | v => v.flat

/-- What goes out: the results, the boxes that came in, and those new boxes that results point to. -/
def pfinish (P : Program) (fn : Func) (k : Nat) (e : Env) (st : St) : Option (PV × List (List PV)) :=
  (presults P e st fn.results.toList).bind fun (vs, st) =>
  let l := newBoxes k vs []
  let out := st.take k ++ l.map (st.getD · [])
  if vs.all outFlat && out.all (fun cs => cs.all flat1)
  then some (match vs with | [v] => outOne k l v | vs => .tup (vs.map (outOne k l)), out) else none

def pbody (P : Program) (H : FuncId → Hint) (C : Oracle) (n : Nat) (f : FuncId) (args : List PV) (bx : List (List PV)) : Option (PV × List (List PV)) :=
  (P.funcs[f]?).bind fun fn => fn.body.bind fun c =>
  (pcode P C (H f) n c (args ++ List.replicate (fn.ntmps - args.length) .undef) bx).bind fun
    | (.normal, e, st) | (.ret, e, st) => pfinish P fn bx.length e st
    | _ => none

def pcall (P : Program) (X : FuncId → Option (List PV → Option PV)) (H : FuncId → Hint) : Nat → Oracle
  | 0, _, _, _ => none
  | n + 1, f, args, bx => match X f with
    | some g => if bx.isEmpty then (g args).map fun v => (v, []) else none
    | none => pbody P H (pcall P X H n) n f args bx

end Go.Sim
/- Operations that may change places: what they do to boxes. Pure: no memory in sight. -/
namespace Go.Sim
open PV

section
variable {P : Program} {C : Oracle} {h : Hint} {fresh : Bool} {e e1 e2 : Env} {st st' : St} {ops : Array Oper} {o a b : Oper} {v u : PV}

/-- It reads the boxes rs and writes the boxes ws. -/
structure Loc2 (f : St → Option (PV × St)) (rs ws : List Nat) : Prop where
  sub : ∀ b ∈ ws, b ∈ rs
  frame : ∀ {st v s1}, f st = some (v, s1) → s1.length = st.length ∧ ∀ b, b ∉ ws → s1[b]? = st[b]?
  congr : ∀ {st st2 v s1}, (∀ b ∈ rs, st2[b]? = st[b]?) → f st = some (v, s1) → ∃ s2, f st2 = some (v, s2) ∧ ∀ b ∈ ws, s2[b]? = s1[b]?

def Made (f : St → Option (PV × St)) : Prop := ∃ c : Option (List PV), ∀ st, f st = c.map fun cs => (.ptr st.length 0, st ++ [cs])

theorem disj_spec {a b : List Nat} (h : disj a b = true) : ∀ x ∈ a, x ∉ b := fun x hx hb => by
  have := List.all_eq_true.1 h x hx
  simp [hb] at this

theorem swap_loc {f g : St → Option (PV × St)} {r w r' w' : List Nat} (hf : Loc2 f r w) (hg : Loc2 g r' w') (h1 : disj w r' = true) (h2 : disj w' r = true)
    {s1 s2 : St} (k1 : f st = some (v, s1)) (k2 : g s1 = some (u, s2)) : ∃ s, g st = some (u, s) ∧ f s = some (v, s2) := by
  have d1 := disj_spec h1
  have d2 := disj_spec h2
  obtain ⟨l1, f1⟩ := hf.frame k1
  obtain ⟨l2, f2⟩ := hg.frame k2
  obtain ⟨s, k3, e3⟩ := hg.congr (st2 := st) (fun b hb => (f1 b fun hw => d1 b hw hb).symm) k2
  obtain ⟨l3, f3⟩ := hg.frame k3
  obtain ⟨s', k4, e4⟩ := hf.congr (st2 := s) (fun b hb => f3 b fun hw => d2 b hw hb) k1
  obtain ⟨l4, f4⟩ := hf.frame k4
  refine ⟨s, k3, ?_⟩
  rw [k4]
  have : s' = s2 := by
    apply List.ext_getElem?
    intro b
    by_cases hb : b ∈ w
    · rw [e4 b hb, f2 b fun hw' => d1 b hb (hg.sub b hw')]
    · rw [f4 b hb]
      by_cases hb' : b ∈ w'
      · rw [e3 b hb']
      · rw [f3 b hb', f2 b hb', f1 b hb]
  rw [this]

theorem swap_new_loc {f g : St → Option (PV × St)} {r w : List Nat} (hf : Made f) (hg : Loc2 g r w) (hb : st.length ∉ r)
    {s1 s2 : St} (k1 : f st = some (v, s1)) (k2 : g s1 = some (u, s2)) : ∃ s, g st = some (u, s) ∧ f s = some (v, s2) := by
  obtain ⟨c, hc⟩ := hf
  rw [hc] at k1
  obtain ⟨cs, rfl, h2⟩ := Option.map_eq_some_iff.1 k1
  simp only [Prod.mk.injEq] at h2
  obtain ⟨rfl, rfl⟩ := h2
  obtain ⟨l2, f2⟩ := hg.frame k2
  have hst : ∀ b, b ≠ st.length → st[b]? = (st ++ [cs])[b]? := fun b hne => by
    rw [List.getElem?_append]; split
    · rfl
    · rw [List.getElem?_eq_none (by omega), List.getElem?_eq_none (by simp; omega)]
  obtain ⟨s, k3, e3⟩ := hg.congr (st2 := st) (fun b hbr => hst b fun he => hb (he ▸ hbr)) k2
  obtain ⟨l3, f3⟩ := hg.frame k3
  refine ⟨s, k3, ?_⟩
  rw [hc, Option.map_some]
  have : s ++ [cs] = s2 := by
    apply List.ext_getElem?
    intro b
    by_cases hbw : b ∈ w
    · have hne : b ≠ st.length := fun he => hb (he ▸ hg.sub b hbw)
      rw [← e3 b hbw, List.getElem?_append]; split
      · rfl
      · rw [List.getElem?_eq_none (by omega : s.length ≤ b), List.getElem?_eq_none (by simp; omega)]
    · rw [f2 b hbw, List.getElem?_append, List.getElem?_append, l3]
      split
      · exact f3 b hbw
      · rfl
  rw [this, l3]

theorem swap_loc_new {f g : St → Option (PV × St)} {r w : List Nat} (hf : Loc2 f r w) (hg : Made g) (hb : st.length ∉ r)
    {s1 s2 : St} (k1 : f st = some (v, s1)) (k2 : g s1 = some (u, s2)) : ∃ s, g st = some (u, s) ∧ f s = some (v, s2) := by
  obtain ⟨c, hc⟩ := hg
  rw [hc] at k2
  obtain ⟨cs, rfl, h2⟩ := Option.map_eq_some_iff.1 k2
  simp only [Prod.mk.injEq] at h2
  obtain ⟨rfl, rfl⟩ := h2
  obtain ⟨l1, f1⟩ := hf.frame k1
  have hst : ∀ b, b ≠ st.length → (st ++ [cs])[b]? = st[b]? := fun b hne => by
    rw [List.getElem?_append]; split
    · rfl
    · rw [List.getElem?_eq_none (by simp; omega), List.getElem?_eq_none (by omega)]
  refine ⟨st ++ [cs], by rw [hc, Option.map_some, l1], ?_⟩
  obtain ⟨s, k3, e3⟩ := hf.congr (st2 := st ++ [cs]) (fun b hbr => hst b fun he => hb (he ▸ hbr)) k1
  obtain ⟨l3, f3⟩ := hf.frame k3
  rw [k3]
  have : s = s1 ++ [cs] := by
    apply List.ext_getElem?
    intro b
    by_cases hbw : b ∈ w
    · have hne : b ≠ st.length := fun he => hb (he ▸ hf.sub b hbw)
      rw [e3 b hbw, List.getElem?_append]; split
      · rfl
      · rw [List.getElem?_eq_none (by omega : s1.length ≤ b), List.getElem?_eq_none (by simp; omega)]
    · rw [f3 b hbw, List.getElem?_append, List.getElem?_append, l1]
      split
      · exact (f1 b hbw).symm
      · rfl
  rw [this]

/-- What leaves boxes alone. -/
theorem Loc2.pure (c : Option PV) : Loc2 (fun st => c.map fun v => (v, st)) [] [] := by
  refine ⟨by simp, fun {st v s1} hk => ?_, fun {st st2 v s1} _ hk => ?_⟩
  · obtain ⟨x, rfl, h2⟩ := Option.map_eq_some_iff.1 hk
    simp only [Prod.mk.injEq] at h2
    obtain ⟨rfl, rfl⟩ := h2
    exact ⟨rfl, fun _ _ => rfl⟩
  · obtain ⟨x, rfl, h2⟩ := Option.map_eq_some_iff.1 hk
    simp only [Prod.mk.injEq] at h2
    obtain ⟨rfl, rfl⟩ := h2
    exact ⟨st2, rfl, by simp⟩
theorem Loc2.none : Loc2 (fun _ => none) [] [] := Loc2.pure Option.none
theorem Loc2.of_eq {f g : St → Option (PV × St)} {r w : List Nat} (h : Loc2 g r w) (he : f = g) : Loc2 f r w := he ▸ h
theorem Loc2.never {f : St → Option (PV × St)} (r : List Nat) (h : ∀ st, f st = Option.none) : Loc2 f r [] :=
  ⟨by simp, fun hk => by rw [h] at hk; (cases hk), fun _ hk => by rw [h] at hk; (cases hk)⟩
theorem Loc2.never2 {f : St → Option (PV × St)} (r : List Nat) (h : ∀ st, f st = Option.none) : Loc2 f r r :=
  ⟨fun _ h => h, fun hk => by rw [h] at hk; (cases hk), fun _ hk => by rw [h] at hk; (cases hk)⟩

/-- One box is read, and perhaps written. -/
theorem Loc2.read (b : Nat) (g : List PV → Option PV) : Loc2 (fun st => (st[b]?).bind fun cs => (g cs).map fun v => (v, st)) [b] [] := by
  refine ⟨by simp, fun {st v s1} hk => ?_, fun {st st2 v s1} hr hk => ?_⟩
  · obtain ⟨cs, _, hk⟩ := Option.bind_eq_some_iff.1 hk
    obtain ⟨x, _, h2⟩ := Option.map_eq_some_iff.1 hk
    simp only [Prod.mk.injEq] at h2
    obtain ⟨rfl, rfl⟩ := h2
    exact ⟨rfl, fun _ _ => rfl⟩
  · obtain ⟨cs, h1, hk⟩ := Option.bind_eq_some_iff.1 hk
    obtain ⟨x, h3, h2⟩ := Option.map_eq_some_iff.1 hk
    simp only [Prod.mk.injEq] at h2
    obtain ⟨rfl, rfl⟩ := h2
    refine ⟨st2, ?_, by simp⟩
    show ((st2[b]?).bind fun cs => (g cs).map fun v => (v, st2)) = _
    rw [hr b (by simp), h1, Option.bind_some, h3, Option.map_some]
theorem Loc2.write (b : Nat) (g : List PV → Option (PV × List PV)) : Loc2 (fun st => (st[b]?).bind fun cs => (g cs).map fun (v, c) => (v, st.set b c)) [b] [b] := by
  refine ⟨by simp, fun {st v s1} hk => ?_, fun {st st2 v s1} hr hk => ?_⟩
  · obtain ⟨cs, _, hk⟩ := Option.bind_eq_some_iff.1 hk
    obtain ⟨x, _, h2⟩ := Option.map_eq_some_iff.1 hk
    simp only [Prod.mk.injEq] at h2
    obtain ⟨rfl, rfl⟩ := h2
    exact ⟨by simp, fun c hc => List.getElem?_set_ne (by simpa [eq_comm] using hc)⟩
  · obtain ⟨cs, h1, hk⟩ := Option.bind_eq_some_iff.1 hk
    obtain ⟨x, h3, h2⟩ := Option.map_eq_some_iff.1 hk
    simp only [Prod.mk.injEq] at h2
    obtain ⟨rfl, rfl⟩ := h2
    refine ⟨st2.set b x.2, ?_, fun c hc => ?_⟩
    · show ((st2[b]?).bind fun cs => (g cs).map fun (v, c) => (v, st2.set b c)) = _
      rw [hr b (by simp), h1, Option.bind_some, h3, Option.map_some]
    · have : c = b := by simpa using hc
      subst this
      have hlt := (List.getElem?_eq_some_iff.1 h1).1
      have hlt2 : c < st2.length := by
        have := hr c (by simp)
        rw [h1] at this
        exact (List.getElem?_eq_some_iff.1 this).1
      rw [List.getElem?_set_self hlt2, List.getElem?_set_self hlt]
end
end Go.Sim
/- The relation between values without memory and values in memory, and its plain lemmas. -/
namespace Go.Sim
open PV

/-- A box in memory: block, first cell, number of cells. -/
structure Loc where
  blk : Nat
  off : Nat
  len : Nat

/-- What is known of rows: block b begins with these cells, and always will. -/
abbrev Gh := Nat → Option (List PV)

def seg (pc : List PV) (o : Nat) (cs : List PV) : Prop := ∀ (i : Nat) x, cs[i]? = some x → pc[o + i]? = some x

def conVal : Nat → Value
  | 0 => .nilFunc
  | 1 => .nilIface
  | _ => .map none

def CRel (G : Gh) (B : List Loc) : PV → Value → Prop
  | .bool b, v => v = .bool b
  | .int k n, v => v = .int k n
  | .str s, v => v = .string ⟨s.toArray⟩
  | .nilp, v => v = .pointer none
  | .ptr b o, v => ∃ l, B[b]? = some l ∧ v = .pointer (some ⟨l.blk, l.off + o, none⟩)
  | .eptr cs o, v => ∃ b base pc, G b = some pc ∧ seg pc base cs ∧ v = .pointer (some ⟨b, base + o, none⟩)
  | .sl sz nl _ xs, v => ∃ a cap, v = .slice a xs.length cap ∧ xs.length ≤ cap ∧ cap ≤ maxLen ∧ (∀ x ∈ xs, x.cells.length = sz) ∧
      match a with
      | none => nl = true ∧ xs = [] ∧ cap = 0
      | some ad => nl = false ∧ ad.spot = none ∧ (xs ≠ [] → ∃ pc, G ad.block = some pc ∧ seg pc ad.off (xs.flatMap cells))
  | .msl sz fl b o n, v => ∃ l cap, B[b]? = some l ∧ v = .slice (some ⟨l.blk, l.off + o, none⟩) n cap ∧ n ≤ cap ∧ cap ≤ maxLen ∧ o + n * sz ≤ l.len ∧ (fl = true → cap = n)
  | .fn f, v => v = .func (.func f) #[] #[]
  | .con i, v => v = conVal i ∧ i ≤ 2
  | .undef, _ => True
  | .agg _, _ => False
  | .tup _, _ => False

def VRel2 (G : Gh) (B : List Loc) : PV → Value → Prop
  | .agg cs, v => ∃ vs : Array Value, v = .agg vs ∧ cs.length = vs.size ∧ ∀ (i : Nat) x y, cs[i]? = some x → vs[i]? = some y → CRel G B x y
  | x, v => CRel G B x v
def VRel (G : Gh) (B : List Loc) : PV → Value → Prop
  | .tup ts, v => ∃ vs : Array Value, v = .tuple vs ∧ ts.length = vs.size ∧ ∀ (i : Nat) x y, ts[i]? = some x → vs[i]? = some y → VRel2 G B x y
  | x, v => VRel2 G B x v

/-- One cell. -/
abbrev one (v : Value) : Bool := v.oneCell'

def leaves : PV → List PV
  | .tup ts => ts.flatMap cells
  | v => v.cells
def vleaves : Value → List Value
  | .tuple vs => vs.toList.flatMap fun v => v.cells.toList
  | v => v.cells.toList

/-- How often is block b's room claimed? -/
def ob (b : Nat) : PV → Value → Nat
  | .sl _ _ true _, .slice (some a) _ _ => if a.block = b then 1 else 0
  | _, _ => 0
def obs (b : Nat) : List PV → List Value → Nat
  | x :: xs, v :: vs => ob b x v + obs b xs vs
  | _, _ => 0
def ob3 (b : Nat) (x : PV) (v : Value) : Nat := match x, v with
  | .tup ts, .tuple vs => (List.zipWith (fun (x : PV) (v : Value) => obs b x.cells v.cells.toList) ts vs.toList).sum
  | x, v => obs b x.cells v.cells.toList
def obE (b : Nat) : List PV → List Value → Nat
  | x :: xs, v :: vs => ob3 b x v + obE b xs vs
  | _, _ => 0
def obB (b : Nat) : List (List PV) → List (List Value) → Nat
  | x :: xs, v :: vs => obs b x v + obB b xs vs
  | _, _ => 0

/-- Who claims the room of a block knows the whole block. -/
def O1 (G : Gh) (w : World) : PV → Value → Prop
  | .sl sz _ true _, .slice (some a) n cap => a.off = 0 ∧ a.spot = none ∧ sz ≠ 0 ∧ ∃ c e pc, w.heap[a.block]? = some (.cells c e (0, 0)) ∧ c.size = cap * sz ∧ G a.block = some pc ∧ pc.length = n * sz
  | _, _ => True
def Os (G : Gh) (w : World) (xs : List PV) (vs : List Value) : Prop := ∀ (i : Nat) x v, xs[i]? = some x → vs[i]? = some v → O1 G w x v
def O3 (G : Gh) (w : World) (x : PV) (v : Value) : Prop := match x, v with
  | .tup ts, .tuple vs => ∀ (i : Nat) (x : PV) (v : Value), ts[i]? = some x → vs[i]? = some v → Os G w x.cells v.cells.toList
  | x, v => Os G w x.cells v.cells.toList

def cellsAt (w : World) (l : Loc) : List Value :=
  match w.heap[l.blk]? with
  | some (.cells c _ _) => (c.toList.drop l.off).take l.len
  | _ => []

structure BoxOk (G : Gh) (B : List Loc) (w : World) (l : Loc) (cs : List PV) : Prop where
  row : G l.blk = none
  heap : ∃ c e fr, w.heap[l.blk]? = some (.cells c e fr) ∧ l.off + l.len ≤ c.size ∧ (∀ o, l.off ≤ o → o < l.off + l.len → ¬ (fr.1 ≤ o ∧ o < fr.2))
  len : cs.length = l.len
  cells : ∀ (j : Nat) x v, cs[j]? = some x → (cellsAt w l)[j]? = some v → one v = true ∧ CRel G B x v
  own : Os G w cs (cellsAt w l)

structure Sim (G : Gh) (B : List Loc) (e : Env) (st : St) (tm : List Value) (w : World) : Prop where
  rows : ∀ b pc, G b = some pc → ∃ c e fr, w.heap[b]? = some (.cells c e fr) ∧ pc.length ≤ c.size ∧ ∀ (i : Nat) x, pc[i]? = some x → x.plain1 = true ∧ ∃ v, c[i]? = some v ∧ one v = true ∧ CRel G [] x v
  blen : B.length = st.length
  bdis : ∀ (i j : Nat) l m, B[i]? = some l → B[j]? = some m → l.blk = m.blk → i = j
  boxes : ∀ (i : Nat) l cs, B[i]? = some l → st[i]? = some cs → BoxOk G B w l cs
  elen : e.length = tm.length
  rel : ∀ (t : Nat) x v, e[t]? = some x → tm[t]? = some v → VRel G B x v ∧ O3 G w x v
  uniq : ∀ b, obE b e tm + obB b st (B.map (cellsAt w)) ≤ 1

structure Prog (G0 : Gh) (w0 : World) (M : Nat → Prop) (G : Gh) (w : World) : Prop where
  size : w0.heap.size ≤ w.heap.size
  heap : ∀ b, b < w0.heap.size → ¬ M b → w.heap[b]? = w0.heap[b]?
  rows : ∀ b pc, G0 b = some pc → ∃ more, G b = some (pc ++ more) ∧ (¬ M b → more = [])
  none : ∀ b, b < w0.heap.size → G0 b = none → G b = none
  os : w.os = w0.os
  tape : w.tape = w0.tape
  output : w.output = w0.output

/-- The blocks that a state may change. -/
def Mof (B : List Loc) (env : Env) (st : St) (tm : List Value) (w : World) (b : Nat) : Prop :=
  0 < obE b env tm + obB b st (B.map (cellsAt w)) ∨ ∃ l ∈ B, l.blk = b

/-- A block outside of a box's cells is as it was. -/
def Out (l : Loc) (w w' : World) : Prop := ∀ c el fr, w.heap[l.blk]? = some (.cells c el fr) →
  ∃ c', w'.heap[l.blk]? = some (.cells c' el fr) ∧ c'.size = c.size ∧ ∀ j, (j < l.off ∨ l.off + l.len ≤ j) → c'[j]? = c[j]?

structure Step (G : Gh) (B : List Loc) (e : Env) (st : St) (tm : List Value) (w : World) (G' : Gh) (B' : List Loc) (e' : Env) (st' : St) (tm' : List Value) (w' : World) : Prop where
  sim : Sim G' B' e' st' tm' w'
  prog : Prog G w (Mof B e st tm w) G' w'
  own : ∀ b, 0 < obE b e' tm' + obB b st' (B'.map (cellsAt w')) → Mof B e st tm w b ∨ w.heap.size ≤ b
  box : ∀ l ∈ B', w.heap.size ≤ l.blk ∨ l ∈ B
  out : ∀ l ∈ B, Out l w w'

theorem Prog.refl (G : Gh) (w : World) (M : Nat → Prop) : Prog G w M G w :=
  ⟨Nat.le_refl _, fun _ _ _ => rfl, fun _ _ h => ⟨[], by simpa using h, fun _ => rfl⟩, fun _ _ h => h, rfl, rfl, rfl⟩

theorem Prog.trans {G0 G1 G2 : Gh} {w0 w1 w2 : World} {M M1 : Nat → Prop} (h : Prog G0 w0 M G1 w1) (k : Prog G1 w1 M1 G2 w2) (hm : ∀ b, M1 b → M b ∨ w0.heap.size ≤ b) (hG : ∀ b pc, G0 b = some pc → b < w0.heap.size) : Prog G0 w0 M G2 w2 where
  size := Nat.le_trans h.size k.size
  heap b hb hn := by
    rw [k.heap b (Nat.lt_of_lt_of_le hb h.size) (fun h1 => (hm b h1).elim hn (fun h2 => by omega)), h.heap b hb hn]
  rows b pc hp := by
    obtain ⟨m1, h1, e1⟩ := h.rows b pc hp
    obtain ⟨m2, h2, e2⟩ := k.rows b _ h1
    refine ⟨m1 ++ m2, by rw [h2, List.append_assoc], fun hn => ?_⟩
    rw [e1 hn, e2 (fun h1' => (hm b h1').elim hn (fun h2 => by have := hG b pc hp; omega))]; rfl
  none b hb hn := k.none b (Nat.lt_of_lt_of_le hb h.size) (h.none b hb hn)
  os := k.os.trans h.os
  tape := k.tape.trans h.tape
  output := k.output.trans h.output

/-- More is known of rows. -/
def Gle (G G' : Gh) : Prop := ∀ b pc, G b = some pc → ∃ more, G' b = some (pc ++ more)
def Ble (B B' : List Loc) : Prop := ∀ (i : Nat) l, B[i]? = some l → B'[i]? = some l

theorem Gle.refl (G : Gh) : Gle G G := fun _ _ h => ⟨[], by simpa using h⟩
theorem Ble.refl (B : List Loc) : Ble B B := fun _ _ h => h
theorem Ble.append (B B' : List Loc) : Ble B (B ++ B') := fun i l h => by
  rw [List.getElem?_append_left (List.getElem?_eq_some_iff.1 h).1]; exact h
theorem Gle.trans {G1 G2 G3 : Gh} (h : Gle G1 G2) (k : Gle G2 G3) : Gle G1 G3 := fun b pc hp => by
  obtain ⟨m, h1⟩ := h b pc hp
  obtain ⟨n, h2⟩ := k b _ h1
  exact ⟨m ++ n, by rw [h2, List.append_assoc]⟩
theorem Prog.gle {G0 G : Gh} {w0 w : World} {M : Nat → Prop} (h : Prog G0 w0 M G w) : Gle G0 G := fun b pc hp => let ⟨m, h1, _⟩ := h.rows b pc hp; ⟨m, h1⟩

theorem seg.grow {pc more cs : List PV} {o : Nat} (h : seg pc o cs) : seg (pc ++ more) o cs := fun i x hx => by
  have := h i x hx
  rw [List.getElem?_append_left (List.getElem?_eq_some_iff.1 this).1]; exact this

theorem CRel.mono {G G' : Gh} {B B' : List Loc} {x : PV} {v : Value} (hG : Gle G G') (hB : Ble B B') (h : CRel G B x v) : CRel G' B' x v := by
  cases x <;> simp only [CRel] at h ⊢ <;> try exact h
  · obtain ⟨l, h1, h2⟩ := h
    exact ⟨l, hB _ _ h1, h2⟩
  · obtain ⟨b, base, pc, h1, h2, h3⟩ := h
    obtain ⟨m, hm⟩ := hG _ _ h1
    exact ⟨b, base, _, hm, h2.grow, h3⟩
  · obtain ⟨a, cap, h1, h2, h3, h4, h5⟩ := h
    refine ⟨a, cap, h1, h2, h3, h4, ?_⟩
    cases a with
    | none => exact h5
    | some ad =>
      obtain ⟨h6, h7, h8⟩ := h5
      refine ⟨h6, h7, fun hx => ?_⟩
      obtain ⟨pc, h9, h10⟩ := h8 hx
      obtain ⟨m, hm⟩ := hG _ _ h9
      exact ⟨_, hm, h10.grow⟩
  · obtain ⟨l, cap, h1, h2⟩ := h
    exact ⟨l, cap, hB _ _ h1, h2⟩

theorem VRel2.mono {G G' : Gh} {B B' : List Loc} {x : PV} {v : Value} (hG : Gle G G') (hB : Ble B B') (h : VRel2 G B x v) : VRel2 G' B' x v := by
  cases x <;> simp only [VRel2] at h ⊢ <;> try exact h.mono hG hB
  obtain ⟨vs, h1, h2, h3⟩ := h
  exact ⟨vs, h1, h2, fun i x y hx hy => (h3 i x y hx hy).mono hG hB⟩
theorem VRel.mono {G G' : Gh} {B B' : List Loc} {x : PV} {v : Value} (hG : Gle G G') (hB : Ble B B') (h : VRel G B x v) : VRel G' B' x v := by
  cases x <;> simp only [VRel] at h ⊢ <;> try exact h.mono hG hB
  obtain ⟨vs, h1, h2, h3⟩ := h
  exact ⟨vs, h1, h2, fun i x y hx hy => (h3 i x y hx hy).mono hG hB⟩

/-- What rows hold does not lead to boxes. -/
theorem CRel.plain {G : Gh} {B B' : List Loc} {x : PV} {v : Value} (hp : x.plain1 = true) (h : CRel G B x v) : CRel G B' x v := by
  cases x <;> simp only [CRel, plain1] at h hp ⊢ <;> first | exact h | simp at hp

theorem O1.keep {G G' : Gh} {w w' : World} {x : PV} {v : Value} (h : O1 G w x v) (hk : ∀ b, 0 < ob b x v → w'.heap[b]? = w.heap[b]? ∧ G' b = G b) : O1 G' w' x v := by
  unfold O1 at h ⊢
  split at h
  · rename_i sz nl xs a n cap
    obtain ⟨h1, h2, h3, c, e, pc, h4, h5, h6, h7⟩ := h
    obtain ⟨k1, k2⟩ := hk a.block (by simp [ob])
    exact ⟨h1, h2, h3, c, e, pc, k1.trans h4, h5, k2.trans h6, h7⟩
  · trivial

theorem obs_pos {b : Nat} : ∀ {xs : List PV} {vs : List Value} {i : Nat} {x : PV} {v : Value}, xs[i]? = some x → vs[i]? = some v → ob b x v ≤ obs b xs vs
  | [], _, _, _, _, h, _ => by simp at h
  | _ :: _, [], _, _, _, _, h => by simp at h
  | x :: xs, v :: vs, 0, _, _, h, k => by simp at h k; subst h; subst k; simp [obs]
  | x :: xs, v :: vs, i + 1, _, _, h, k => by
    simp at h k
    have := obs_pos (b := b) h k
    simp only [obs]; omega

theorem Os.keep {G G' : Gh} {w w' : World} {xs : List PV} {vs : List Value} (h : Os G w xs vs) (hk : ∀ b, 0 < obs b xs vs → w'.heap[b]? = w.heap[b]? ∧ G' b = G b) : Os G' w' xs vs :=
  fun i x v hx hv => (h i x v hx hv).keep fun b hb => hk b (Nat.lt_of_lt_of_le hb (obs_pos hx hv))

theorem sum_zip_pos {f : PV → Value → Nat} : ∀ {xs : List PV} {vs : List Value} {i : Nat} {x : PV} {v : Value}, xs[i]? = some x → vs[i]? = some v → f x v ≤ (List.zipWith f xs vs).sum
  | [], _, _, _, _, h, _ => by simp at h
  | _ :: _, [], _, _, _, _, h => by simp at h
  | x :: xs, v :: vs, 0, _, _, h, k => by simp at h k; subst h; subst k; simp
  | x :: xs, v :: vs, i + 1, _, _, h, k => by
    simp at h k
    have := sum_zip_pos (f := f) h k
    simp only [List.zipWith_cons_cons, List.sum_cons]; omega

theorem O3.keep {G G' : Gh} {w w' : World} {x : PV} {v : Value} (h : O3 G w x v) (hk : ∀ b, 0 < ob3 b x v → w'.heap[b]? = w.heap[b]? ∧ G' b = G b) : O3 G' w' x v := by
  unfold O3 at h ⊢
  unfold ob3 at hk
  split at h
  · rename_i ts vs
    intro i x v hx hv
    refine (h i x v hx hv).keep fun b hb => hk b ?_
    exact Nat.lt_of_lt_of_le hb (sum_zip_pos (f := fun (x : PV) (v : Value) => obs b x.cells v.cells.toList) hx (by simpa using hv))
  · rename_i hn
    refine h.keep fun b hb => hk b ?_
    split
    · exact (hn _ _ rfl rfl).elim
    · exact hb

theorem obE_pos {b : Nat} : ∀ {xs : List PV} {vs : List Value} {i : Nat} {x : PV} {v : Value}, xs[i]? = some x → vs[i]? = some v → ob3 b x v ≤ obE b xs vs
  | [], _, _, _, _, h, _ => by simp at h
  | _ :: _, [], _, _, _, _, h => by simp at h
  | x :: xs, v :: vs, 0, _, _, h, k => by simp at h k; subst h; subst k; simp [obE]
  | x :: xs, v :: vs, i + 1, _, _, h, k => by
    simp at h k
    have := obE_pos (b := b) h k
    simp only [obE]; omega

theorem obB_pos {b : Nat} : ∀ {xs : List (List PV)} {vs : List (List Value)} {i : Nat} {x : List PV} {v : List Value}, xs[i]? = some x → vs[i]? = some v → obs b x v ≤ obB b xs vs
  | [], _, _, _, _, h, _ => by simp at h
  | _ :: _, [], _, _, _, _, h => by simp at h
  | x :: xs, v :: vs, 0, _, _, h, k => by simp at h k; subst h; subst k; simp [obB]
  | x :: xs, v :: vs, i + 1, _, _, h, k => by
    simp at h k
    have := obB_pos (b := b) h k
    simp only [obB]; omega

/-- A claimed block is a known row. -/
theorem O1.lt {G : Gh} {w : World} {x : PV} {v : Value} {b : Nat} (h : O1 G w x v) (hb : 0 < ob b x v) : b < w.heap.size ∧ ∃ pc, G b = some pc := by
  unfold O1 at h
  unfold ob at hb
  split at h
  · rename_i sz nl xs a n cap
    obtain ⟨_, _, _, c, e, pc, h4, _, h6, _⟩ := h
    simp only at hb
    split at hb
    · rename_i hab; subst hab; exact ⟨(Array.getElem?_eq_some_iff.1 h4).1, pc, h6⟩
    · simp at hb
  · rename_i hn
    split at hb
    · exact (hn _ _ _ _ _ _ rfl rfl).elim
    · simp at hb
theorem obs_ex {b : Nat} : ∀ {xs : List PV} {vs : List Value}, 0 < obs b xs vs → ∃ (i : Nat) (x : PV) (v : Value), xs[i]? = some x ∧ vs[i]? = some v ∧ 0 < ob b x v
  | [], _, h => by simp [obs] at h
  | _ :: _, [], h => by simp [obs] at h
  | x :: xs, v :: vs, h => by
    simp only [obs] at h
    by_cases h0 : 0 < ob b x v
    · exact ⟨0, x, v, rfl, rfl, h0⟩
    · obtain ⟨i, y, u, h1, h2, h3⟩ := obs_ex (xs := xs) (vs := vs) (b := b) (by omega)
      exact ⟨i + 1, y, u, by simpa using h1, by simpa using h2, h3⟩
theorem Os.lt {G : Gh} {w : World} {xs : List PV} {vs : List Value} {b : Nat} (h : Os G w xs vs) (hb : 0 < obs b xs vs) : b < w.heap.size ∧ ∃ pc, G b = some pc := by
  obtain ⟨i, x, v, h1, h2, h3⟩ := obs_ex hb
  exact (h i x v h1 h2).lt h3
theorem sum_zip_ex {f : PV → Value → Nat} : ∀ {xs : List PV} {vs : List Value}, 0 < (List.zipWith f xs vs).sum → ∃ (i : Nat) (x : PV) (v : Value), xs[i]? = some x ∧ vs[i]? = some v ∧ 0 < f x v
  | [], _, h => by simp at h
  | _ :: _, [], h => by simp at h
  | x :: xs, v :: vs, h => by
    simp only [List.zipWith_cons_cons, List.sum_cons] at h
    by_cases h0 : 0 < f x v
    · exact ⟨0, x, v, rfl, rfl, h0⟩
    · obtain ⟨i, y, u, h1, h2, h3⟩ := sum_zip_ex (xs := xs) (vs := vs) (f := f) (by omega)
      exact ⟨i + 1, y, u, by simpa using h1, by simpa using h2, h3⟩
theorem O3.lt {G : Gh} {w : World} {x : PV} {v : Value} {b : Nat} (h : O3 G w x v) (hb : 0 < ob3 b x v) : b < w.heap.size ∧ ∃ pc, G b = some pc := by
  unfold O3 at h
  unfold ob3 at hb
  split at h
  · rename_i ts vs
    obtain ⟨i, x, v, h1, h2, h3⟩ := sum_zip_ex hb
    exact (h i x v h1 (by simpa using h2)).lt h3
  · rename_i hn
    split at hb
    · exact (hn _ _ rfl rfl).elim
    · exact h.lt hb
theorem obE_ex {b : Nat} : ∀ {xs : List PV} {vs : List Value}, 0 < obE b xs vs → ∃ (i : Nat) (x : PV) (v : Value), xs[i]? = some x ∧ vs[i]? = some v ∧ 0 < ob3 b x v
  | [], _, h => by simp [obE] at h
  | _ :: _, [], h => by simp [obE] at h
  | x :: xs, v :: vs, h => by
    simp only [obE] at h
    by_cases h0 : 0 < ob3 b x v
    · exact ⟨0, x, v, rfl, rfl, h0⟩
    · obtain ⟨i, y, u, h1, h2, h3⟩ := obE_ex (xs := xs) (vs := vs) (b := b) (by omega)
      exact ⟨i + 1, y, u, by simpa using h1, by simpa using h2, h3⟩
theorem obB_ex {b : Nat} : ∀ {xs : List (List PV)} {vs : List (List Value)}, 0 < obB b xs vs → ∃ (i : Nat) (x : List PV) (v : List Value), xs[i]? = some x ∧ vs[i]? = some v ∧ 0 < obs b x v
  | [], _, h => by simp [obB] at h
  | _ :: _, [], h => by simp [obB] at h
  | x :: xs, v :: vs, h => by
    simp only [obB] at h
    by_cases h0 : 0 < obs b x v
    · exact ⟨0, x, v, rfl, rfl, h0⟩
    · obtain ⟨i, y, u, h1, h2, h3⟩ := obB_ex (xs := xs) (vs := vs) (b := b) (by omega)
      exact ⟨i + 1, y, u, by simpa using h1, by simpa using h2, h3⟩

section
variable {G : Gh} {B : List Loc} {e : Env} {st : St} {tm : List Value} {w : World}

theorem Sim.rowLt (h : Sim G B e st tm w) {b : Nat} {pc : List PV} (hp : G b = some pc) : b < w.heap.size := by
  obtain ⟨c, _, _, h1, _⟩ := h.rows b pc hp
  exact (Array.getElem?_eq_some_iff.1 h1).1
theorem Sim.boxLt (h : Sim G B e st tm w) {l : Loc} (hl : l ∈ B) : l.blk < w.heap.size ∧ G l.blk = none := by
  obtain ⟨i, hi⟩ := List.getElem?_of_mem hl
  obtain ⟨cs, hc⟩ : ∃ cs, st[i]? = some cs := by
    have := (List.getElem?_eq_some_iff.1 hi).1
    rw [h.blen] at this
    exact ⟨_, List.getElem?_eq_getElem this⟩
  have hb := h.boxes i l cs hi hc
  obtain ⟨c, _, _, h1, _⟩ := hb.heap
  exact ⟨(Array.getElem?_eq_some_iff.1 h1).1, hb.row⟩
/-- What may change is a known row, or a box. -/
theorem Sim.mofLt (h : Sim G B e st tm w) {b : Nat} (hb : Mof B e st tm w b) : b < w.heap.size := by
  rcases hb with hb | ⟨l, hl, rfl⟩
  · by_cases h0 : 0 < obE b e tm
    · obtain ⟨i, x, v, h1, h2, h3⟩ := obE_ex h0
      exact ((h.rel i x v h1 h2).2.lt h3).1
    · obtain ⟨i, x, v, h1, h2, h3⟩ := obB_ex (b := b) (xs := st) (vs := B.map (cellsAt w)) (by omega)
      rw [List.getElem?_map] at h2
      obtain ⟨l, hl, rfl⟩ := Option.map_eq_some_iff.1 h2
      exact ((h.boxes i l x hl h1).own.lt h3).1
  · exact (h.boxLt hl).1

theorem Out.same {l : Loc} {w w' : World} (h : w'.heap[l.blk]? = w.heap[l.blk]?) : Out l w w' := fun c el fr hc => ⟨c, by rw [h, hc], rfl, fun _ _ => rfl⟩
theorem Out.trans {l : Loc} {w w1 w2 : World} (h : Out l w w1) (k : Out l w1 w2) : Out l w w2 := fun c el fr hc => by
  obtain ⟨c1, h1, h2, h3⟩ := h c el fr hc
  obtain ⟨c2, k1, k2, k3⟩ := k c1 el fr h1
  exact ⟨c2, k1, k2.trans h2, fun j hj => (k3 j hj).trans (h3 j hj)⟩

theorem Step.refl (h : Sim G B e st tm w) : Step G B e st tm w G B e st tm w := ⟨h, Prog.refl _ _ _, fun _ hb => .inl (.inl hb), fun _ hl => .inr hl, fun _ _ => Out.same rfl⟩

theorem Step.mof {G1 : Gh} {B1 : List Loc} {e1 : Env} {st1 : St} {tm1 : List Value} {w1 : World} (h : Step G B e st tm w G1 B1 e1 st1 tm1 w1) {b : Nat} (hb : Mof B1 e1 st1 tm1 w1 b) : Mof B e st tm w b ∨ w.heap.size ≤ b := by
  rcases hb with hb | ⟨l, hl, rfl⟩
  · exact h.own b hb
  · rcases h.box l hl with h1 | h1
    · exact .inr h1
    · exact .inl (.inr ⟨l, h1, rfl⟩)

/-- No room is claimed in a box's block. -/
theorem Sim.notOwned (h : Sim G B e st tm w) {b : Nat} (hG : G b = none) : obE b e tm + obB b st (B.map (cellsAt w)) = 0 := by
  apply Nat.eq_zero_of_not_pos
  intro hb
  by_cases h0 : 0 < obE b e tm
  · obtain ⟨i, x, v, h1, h2, h3⟩ := obE_ex h0
    obtain ⟨_, pc, hp⟩ := (h.rel i x v h1 h2).2.lt h3
    rw [hG] at hp; cases hp
  · obtain ⟨i, x, v, h1, h2, h3⟩ := obB_ex (b := b) (xs := st) (vs := B.map (cellsAt w)) (by omega)
    rw [List.getElem?_map] at h2
    obtain ⟨l, hl, rfl⟩ := Option.map_eq_some_iff.1 h2
    obtain ⟨_, pc, hp⟩ := (h.boxes i l x hl h1).own.lt h3
    rw [hG] at hp; cases hp

theorem Sim.boxEq (h : Sim G B e st tm w) {l m : Loc} (hl : l ∈ B) (hm : m ∈ B) (he : l.blk = m.blk) : l = m := by
  obtain ⟨i, hi⟩ := List.getElem?_of_mem hl
  obtain ⟨j, hj⟩ := List.getElem?_of_mem hm
  have := h.bdis i j l m hi hj he
  subst this
  rw [hi] at hj; cases hj; rfl

theorem Step.trans {G1 G2 : Gh} {B1 B2 : List Loc} {e1 e2 : Env} {st1 st2 : St} {tm1 tm2 : List Value} {w1 w2 : World} (h0 : Sim G B e st tm w)
    (h : Step G B e st tm w G1 B1 e1 st1 tm1 w1) (k : Step G1 B1 e1 st1 tm1 w1 G2 B2 e2 st2 tm2 w2) : Step G B e st tm w G2 B2 e2 st2 tm2 w2 where
  sim := k.sim
  prog := h.prog.trans k.prog (fun b hb => h.mof hb) fun b pc hp => h0.rowLt hp
  own b hb := by
    rcases k.own b hb with h1 | h1
    · exact h.mof h1
    · exact .inr (Nat.le_trans h.prog.size h1)
  box l hl := by
    rcases k.box l hl with h1 | h1
    · exact .inl (Nat.le_trans h.prog.size h1)
    · exact h.box l h1
  out l hl := by
    have hlt := h0.boxLt hl
    refine (h.out l hl).trans ?_
    by_cases hin : l ∈ B1
    · exact k.out l hin
    · refine Out.same (k.prog.heap _ (Nat.lt_of_lt_of_le hlt.1 h.prog.size) ?_)
      rintro (hm | ⟨m, hm, he⟩)
      · have := h.sim.notOwned (h.prog.none _ hlt.1 hlt.2)
        omega
      · rcases h.box m hm with h1 | h1
        · omega
        · exact hin (h0.boxEq h1 hl he ▸ hm)
end

end Go.Sim
/- How the relation goes on: values taken, laid down, forgotten; new rows and boxes. -/
namespace Go.Sim
open PV

theorem ob_dem1 (b : Nat) (x : PV) (v : Value) : ob b (dem1 x) v = 0 := by
  cases x <;> simp [dem1, ob]
theorem obs_dem1 (b : Nat) : ∀ (cs : List PV) (vs : List Value), obs b (cs.map dem1) vs = 0
  | [], _ => by simp [obs]
  | _ :: _, [] => by simp [obs]
  | x :: cs, v :: vs => by simp [obs, ob_dem1, obs_dem1 b cs vs]
theorem cells_dem2 (x : PV) : (dem2 x).cells = x.cells.map dem1 := by
  cases x <;> simp [dem2, dem1, cells]
theorem obs_dem2 (b : Nat) (x : PV) (vs : List Value) : obs b (dem2 x).cells vs = 0 := by rw [cells_dem2, obs_dem1]
theorem sum_zero {f : PV → Value → Nat} (hf : ∀ x v, f (dem2 x) v = 0) : ∀ (xs : List PV) (vs : List Value), (List.zipWith f (xs.map dem2) vs).sum = 0
  | [], _ => by simp
  | _ :: _, [] => by simp
  | x :: xs, v :: vs => by simp [hf, sum_zero hf xs vs]
theorem ob3_dem2 (b : Nat) (x : PV) (v : Value) (hx : ∀ ts, x ≠ .tup ts) : ob3 b (dem2 x) v = 0 := by
  have h2 := obs_dem2 b x v.cells.toList
  cases x <;> simp only [dem2, dem1, ob3] at h2 ⊢ <;> first | exact h2 | exact (hx _ rfl).elim
theorem dem_eq (x : PV) (hx : ∀ ts, x ≠ .tup ts) : x.dem = dem2 x := by
  cases x <;> first | rfl | exact (hx _ rfl).elim
theorem obs_tup (b : Nat) (ts : List PV) (l : List Value) : obs b [.tup ts] l = 0 := by
  cases l <;> simp [obs, ob]
theorem ob3_dem (b : Nat) (x : PV) (v : Value) : ob3 b x.dem v = 0 := by
  by_cases h : ∃ ts, x = .tup ts
  · obtain ⟨ts, rfl⟩ := h
    cases v with
    | tuple vs => exact sum_zero (f := fun (x : PV) (v : Value) => obs b x.cells v.cells.toList) (fun x v => obs_dem2 b x _) _ _
    | _ => exact obs_tup b _ _
  · rw [dem_eq x (fun ts e => h ⟨ts, e⟩)]
    exact ob3_dem2 b x v (fun ts e => h ⟨ts, e⟩)

theorem CRel_dem1 {G : Gh} {B : List Loc} {x : PV} {v : Value} : CRel G B (dem1 x) v ↔ CRel G B x v := by
  cases x <;> simp [dem1, CRel]
theorem VRel2.dem {G : Gh} {B : List Loc} {x : PV} {v : Value} (h : VRel2 G B x v) : VRel2 G B (dem2 x) v := by
  cases x with
  | agg cs =>
    obtain ⟨vs, h1, h2, h3⟩ := h
    refine ⟨vs, h1, by simpa using h2, fun i x y hx hy => ?_⟩
    rw [List.getElem?_map] at hx
    obtain ⟨x0, hx0, rfl⟩ := Option.map_eq_some_iff.1 hx
    exact CRel_dem1.2 (h3 i x0 y hx0 hy)
  | sl sz nl own xs => exact (CRel_dem1 (G := G) (B := B) (x := .sl sz nl own xs) (v := v)).2 h
  | _ => exact h
theorem VRel.dem {G : Gh} {B : List Loc} {x : PV} {v : Value} (h : VRel G B x v) : VRel G B x.dem v := by
  cases x with
  | tup ts =>
    obtain ⟨vs, h1, h2, h3⟩ := h
    refine ⟨vs, h1, by simpa using h2, fun i x y hx hy => ?_⟩
    rw [List.getElem?_map] at hx
    obtain ⟨x0, hx0, rfl⟩ := Option.map_eq_some_iff.1 hx
    exact (h3 i x0 y hx0 hy).dem
  | agg cs => exact VRel2.dem (G := G) (B := B) (x := .agg cs) (v := v) h
  | sl sz nl own xs => exact VRel2.dem (G := G) (B := B) (x := .sl sz nl own xs) (v := v) h
  | _ => exact h

theorem O1_dem1 (G : Gh) (w : World) (x : PV) (v : Value) : O1 G w (dem1 x) v := by
  cases x <;> simp [dem1, O1]
theorem Os_dem1 (G : Gh) (w : World) (cs : List PV) (vs : List Value) : Os G w (cs.map dem1) vs := fun i x v hx _ => by
  rw [List.getElem?_map] at hx
  obtain ⟨x0, _, rfl⟩ := Option.map_eq_some_iff.1 hx
  exact O1_dem1 G w x0 v
theorem Os_dem2 (G : Gh) (w : World) (x : PV) (vs : List Value) : Os G w (dem2 x).cells vs := by rw [cells_dem2]; exact Os_dem1 _ _ _ _
/-- Without claims. -/
def free3 (x : PV) : Prop := x = x.dem
theorem Os_of_zero {G : Gh} {w : World} {xs : List PV} (h : xs.map dem1 = xs) (vs : List Value) : Os G w xs vs := by rw [← h]; exact Os_dem1 _ _ _ _
theorem O3_dem (G : Gh) (w : World) (x : PV) (v : Value) : O3 G w x.dem v := by
  by_cases h : ∃ ts, x = .tup ts
  · obtain ⟨ts, rfl⟩ := h
    have hh : ∀ l : List Value, Os G w [.tup (ts.map dem2)] l := fun l i x v hx _ => by
      cases i <;> simp at hx
      subst hx; trivial
    cases v with
    | tuple vs =>
      intro i x v hx _
      rw [List.getElem?_map] at hx
      obtain ⟨x0, _, rfl⟩ := Option.map_eq_some_iff.1 hx
      exact Os_dem2 _ _ _ _
    | _ => exact hh _
  · have e := dem_eq x (fun ts e => h ⟨ts, e⟩)
    have e2 := Os_dem2 G w x v.cells.toList
    rw [e]
    unfold O3
    split
    · rename_i ts vs heq
      exact absurd heq (by
        intro heq
        cases x <;> simp [dem2, dem1] at heq
        exact h ⟨_, rfl⟩)
    · exact e2

section
variable {G : Gh} {B : List Loc} {e : Env} {st : St} {tm : List Value} {w : World} {x : PV} {v : Value}

theorem obE_set_le (b : Nat) (x : PV) (v : Value) : ∀ (e : Env) (tm : List Value) (d : Nat), obE b (e.set d x) (tm.set d v) ≤ ob3 b x v + obE b e tm
  | [], _, _ => by simp [obE]
  | _ :: _, [], _ => by simp [obE]
  | y :: e, u :: tm, 0 => by simp [obE]
  | y :: e, u :: tm, d + 1 => by
    have := obE_set_le b x v e tm d
    simp only [List.set_cons_succ, obE]; omega
theorem obE_set_eq (b : Nat) (y : PV) : ∀ (e : Env) (tm : List Value) (t : Nat) (x : PV) (v : Value), e[t]? = some x → tm[t]? = some v →
    obE b (e.set t y) tm + ob3 b x v = obE b e tm + ob3 b y v
  | [], _, _, _, _, h, _ => by simp at h
  | _ :: _, [], _, _, _, _, h => by simp at h
  | z :: e, u :: tm, 0, x, v, h, k => by simp at h k; subst h; subst k; simp [obE]; omega
  | z :: e, u :: tm, t + 1, x, v, h, k => by
    simp at h k
    have := obE_set_eq b y e tm t x v h k
    simp only [List.set_cons_succ, obE]; omega

theorem Sim.push (h : Sim G B e st tm w) (hv : VRel G B x v) (ho : O3 G w x v) (hu : ∀ b, ob3 b x v + (obE b e tm + obB b st (B.map (cellsAt w))) ≤ 1) : Sim G B (x :: e) st (v :: tm) w :=
  { h with
    elen := by simp [h.elen]
    rel := fun t y u hy hu' => by
      cases t with
      | zero => simp at hy hu'; subst hy; subst hu'; exact ⟨hv, ho⟩
      | succ t => exact h.rel t y u (by simpa using hy) (by simpa using hu')
    uniq := fun b => by have := hu b; simp only [obE]; omega }

theorem Sim.pushDem (h : Sim G B e st tm w) (hv : VRel G B x v) : Sim G B (x.dem :: e) st (v :: tm) w :=
  h.push hv.dem (O3_dem _ _ _ _) fun b => by rw [ob3_dem]; have := h.uniq b; omega
theorem Sim.pushFree (h : Sim G B e st tm w) (hv : VRel G B x v) (hx : x.dem = x) : Sim G B (x :: e) st (v :: tm) w := by
  have := h.pushDem hv; rwa [hx] at this

theorem Sim.drop (h : Sim G B (x :: e) st (v :: tm) w) : Sim G B e st tm w :=
  { h with
    elen := by simpa using h.elen
    rel := fun t y u hy hu' => h.rel (t + 1) y u (by simpa using hy) (by simpa using hu')
    uniq := fun b => by have := h.uniq b; simp only [obE] at this; omega }

theorem Sim.setD (h : Sim G B (x :: e) st (v :: tm) w) (d : Nat) : Sim G B (e.set d x) st (tm.set d v) w :=
  { h with
    elen := by have := h.elen; simp at this ⊢; exact this
    rel := fun t y u hy hu' => by
      by_cases hd : t = d
      · subst hd
        have hl : t < e.length := by have := (List.getElem?_eq_some_iff.1 hy).1; simpa using this
        have hl' : t < tm.length := by have := (List.getElem?_eq_some_iff.1 hu').1; simpa using this
        rw [List.getElem?_set_self hl] at hy
        rw [List.getElem?_set_self hl'] at hu'
        cases hy; cases hu'
        exact h.rel 0 x v rfl rfl
      · rw [List.getElem?_set_ne (Ne.symm hd)] at hy hu'
        exact h.rel (t + 1) y u (by simpa using hy) (by simpa using hu')
    uniq := fun b => by
      have := h.uniq b
      have h2 := obE_set_le b x v e tm d
      simp only [obE] at this; omega }

/-- A value is taken out of a slot, which keeps a copy without claims. -/
theorem Sim.take (h : Sim G B e st tm w) {t : Nat} (hx : e[t]? = some x) (hv : tm[t]? = some v) : Sim G B (x :: e.set t x.dem) st (v :: tm) w := by
  have hr := h.rel t x v hx hv
  have hs : Sim G B (e.set t x.dem) st tm w :=
    { h with
      elen := by simpa using h.elen
      rel := fun u y z hy hz => by
        by_cases hd : u = t
        · subst hd
          rw [List.getElem?_set_self (List.getElem?_eq_some_iff.1 hx).1] at hy
          cases hy
          rw [hv] at hz; cases hz
          exact ⟨hr.1.dem, O3_dem _ _ _ _⟩
        · rw [List.getElem?_set_ne (Ne.symm hd)] at hy
          exact h.rel u y z hy hz
      uniq := fun b => by
        have := h.uniq b
        have h2 := obE_set_eq b x.dem e tm t x v hx hv
        rw [ob3_dem] at h2; omega }
  refine hs.push hr.1 hr.2 fun b => ?_
  have := h.uniq b
  have h2 := obE_set_eq b x.dem e tm t x v hx hv
  rw [ob3_dem] at h2; omega

/-- Only the heap counts. -/
theorem cellsAt_congr {w w' : World} (l : Loc) (h : w'.heap[l.blk]? = w.heap[l.blk]?) : cellsAt w' l = cellsAt w l := by
  unfold cellsAt; rw [h]

theorem BoxOk.keep {G G' : Gh} {B B' : List Loc} {w w' : World} {l : Loc} {cs : List PV} (h : BoxOk G B w l cs) (hG : Gle G G') (hB : Ble B B')
    (hl : w'.heap[l.blk]? = w.heap[l.blk]?) (hn : G' l.blk = none) (ho : ∀ b, 0 < obs b cs (cellsAt w l) → w'.heap[b]? = w.heap[b]? ∧ G' b = G b) : BoxOk G' B' w' l cs where
  row := hn
  heap := by rw [hl]; exact h.heap
  len := h.len
  cells j x v hx hv := by
    rw [cellsAt_congr l hl] at hv
    obtain ⟨h1, h2⟩ := h.cells j x v hx hv
    exact ⟨h1, h2.mono hG hB⟩
  own := by rw [cellsAt_congr l hl]; exact h.own.keep ho

/-- The world grows: old blocks and rows are as they were. -/
theorem Sim.grow {G' : Gh} {B' : List Loc} {w' : World} (h : Sim G B e st tm w) (hp : Prog G w (fun _ => False) G' w') (hB : Ble B B')
    (hlen : B'.length = B.length)
    (hr : ∀ b pc, G' b = some pc → w.heap.size ≤ b → ∃ c e fr, w'.heap[b]? = some (.cells c e fr) ∧ pc.length ≤ c.size ∧ ∀ (i : Nat) x, pc[i]? = some x → x.plain1 = true ∧ ∃ v, c[i]? = some v ∧ one v = true ∧ CRel G' [] x v) :
    Sim G' B' e st tm w' := by
  have hBB : B' = B := by
    apply List.ext_getElem? ; intro i
    by_cases hi : i < B.length
    · rw [hB i B[i] (List.getElem?_eq_getElem hi), List.getElem?_eq_getElem hi]
    · rw [List.getElem?_eq_none (by omega), List.getElem?_eq_none (by omega)]
  subst hBB
  have hold : ∀ b pc, G b = some pc → G' b = G b := fun b pc hb => by
    obtain ⟨m, h1, h2⟩ := hp.rows b pc hb
    rw [h2 (by simp), List.append_nil] at h1
    rw [h1, hb]
  have hcells : B'.map (cellsAt w') = B'.map (cellsAt w) := by
    apply List.map_congr_left
    intro l hl
    exact cellsAt_congr l (hp.heap _ (h.boxLt hl).1 (by simp))
  refine ⟨?_, h.blen, h.bdis, ?_, h.elen, ?_, ?_⟩
  · intro b pc hb
    by_cases hlt : b < w.heap.size
    · cases hGb : G b with
      | none => rw [hp.none b hlt hGb] at hb; cases hb
      | some pc0 =>
        rw [hold b pc0 hGb, hGb] at hb; cases hb
        obtain ⟨c, e, fr, h1, h2, h3⟩ := h.rows b pc hGb
        refine ⟨c, e, fr, by rw [hp.heap b hlt (by simp)]; exact h1, h2, fun i x hx => ?_⟩
        obtain ⟨k1, v, k2, k3, k4⟩ := h3 i x hx
        exact ⟨k1, v, k2, k3, k4.mono hp.gle (Ble.refl _)⟩
    · exact hr b pc hb (by omega)
  · intro i l cs hl hc
    have hb := h.boxes i l cs hl hc
    have hlt := h.boxLt (List.mem_of_getElem? hl)
    refine hb.keep hp.gle (Ble.refl _) (hp.heap _ hlt.1 (by simp)) (hp.none _ hlt.1 hlt.2) fun b hbb => ?_
    obtain ⟨h1, pc, h2⟩ := hb.own.lt hbb
    exact ⟨hp.heap b h1 (by simp), hold b pc h2⟩
  · intro t x v hx hv
    obtain ⟨h1, h2⟩ := h.rel t x v hx hv
    refine ⟨h1.mono hp.gle (Ble.refl _), h2.keep fun b hb => ?_⟩
    obtain ⟨k1, pc, k2⟩ := h2.lt hb
    exact ⟨hp.heap b k1 (by simp), hold b pc k2⟩
  · intro b; rw [hcells]; exact h.uniq b

theorem Prog.sameHeap {w w' : World} (hh : w'.heap = w.heap) (h1 : w'.os = w.os) (h2 : w'.tape = w.tape) (h3 : w'.output = w.output) (M : Nat → Prop) : Prog G w M G w' :=
  ⟨by rw [hh]; exact Nat.le_refl _, fun _ _ _ => by rw [hh], fun b pc h => ⟨[], by simpa using h, fun _ => rfl⟩, fun _ _ h => h, h1, h2, h3⟩

theorem Sim.sameHeap {w' : World} (h : Sim G B e st tm w) (hh : w'.heap = w.heap) : Sim G B e st tm w' := by
  have hc : ∀ l, cellsAt w' l = cellsAt w l := fun l => by unfold cellsAt; rw [hh]
  have ho : ∀ x v, O3 G w x v → O3 G w' x v := fun x v h => h.keep fun b _ => ⟨by rw [hh], rfl⟩
  exact ⟨by rw [hh]; exact h.rows, h.blen, h.bdis, fun i l cs hl hcs => (h.boxes i l cs hl hcs).keep (Gle.refl _) (Ble.refl _) (by rw [hh]) (h.boxes i l cs hl hcs).row (fun b _ => ⟨by rw [hh], rfl⟩),
    h.elen, fun t x v hx hv => ⟨(h.rel t x v hx hv).1, ho _ _ (h.rel t x v hx hv).2⟩, fun b => by
      have : B.map (cellsAt w') = B.map (cellsAt w) := List.map_congr_left fun l _ => hc l
      rw [this]; exact h.uniq b⟩

def updG (G : Gh) (b : Nat) (pc : List PV) : Gh := fun k => if k = b then some pc else G k

/-- A new block that is a row. -/
theorem Sim.newRow {w' : World} (h : Sim G B e st tm w) (c : Array Value) (el : TypeId) (fr : Nat × Nat) (hh : w'.heap = w.heap.push (.cells c el fr)) (h1 : w'.os = w.os) (h2 : w'.tape = w.tape) (h3 : w'.output = w.output)
    (pc : List PV) (hl : pc.length ≤ c.size) (hc : ∀ (i : Nat) x, pc[i]? = some x → x.plain1 = true ∧ ∃ v, c[i]? = some v ∧ one v = true ∧ CRel G [] x v) :
    Sim (updG G w.heap.size pc) B e st tm w' ∧ Prog G w (fun _ => False) (updG G w.heap.size pc) w' ∧ B.map (cellsAt w') = B.map (cellsAt w) := by
  have hold : ∀ b, b < w.heap.size → w'.heap[b]? = w.heap[b]? := fun b hb => by rw [hh, Array.getElem?_push, if_neg (by omega)]
  have hne : ∀ b pc, G b = some pc → b ≠ w.heap.size := fun b pc hp => by have := h.rowLt hp; omega
  have hp : Prog G w (fun _ => False) (updG G w.heap.size pc) w' :=
    ⟨by rw [hh]; simp, fun b hb _ => hold b hb, fun b pc' hp => ⟨[], by simp [updG, hne b pc' hp, hp], fun _ => rfl⟩, fun b hb hn => by simp [updG, hn]; omega, h1, h2, h3⟩
  have hcells : B.map (cellsAt w') = B.map (cellsAt w) := by
    apply List.map_congr_left
    intro l hl
    exact cellsAt_congr l (hp.heap _ (h.boxLt hl).1 (by simp))
  refine ⟨h.grow hp (Ble.refl _) rfl fun b pc' hb hge => ?_, hp, hcells⟩
  unfold updG at hb
  split at hb
  · rename_i hbe
    cases hb
    subst hbe
    refine ⟨c, el, fr, by rw [hh]; simp, hl, fun i x hx => ?_⟩
    obtain ⟨k1, v, k2, k3, k4⟩ := hc i x hx
    exact ⟨k1, v, k2, k3, k4.mono hp.gle (Ble.refl _)⟩
  · have := h.rowLt hb; omega

theorem obB_append (b : Nat) : ∀ (xs ys : List (List PV)) (vs us : List (List Value)), xs.length = vs.length → obB b (xs ++ ys) (vs ++ us) = obB b xs vs + obB b ys us
  | [], _, [], _, _ => by simp [obB]
  | [], _, _ :: _, _, h => by simp at h
  | _ :: _, _, [], _, h => by simp at h
  | x :: xs, ys, v :: vs, us, h => by
    have := obB_append b xs ys vs us (by simpa using h)
    simp only [List.cons_append, obB]; omega

/-- A new block that is a box: its first cells. -/
theorem Sim.newBox {w' : World} (h : Sim G B e st tm w) (c : Array Value) (el : TypeId) (fr : Nat × Nat) (hh : w'.heap = w.heap.push (.cells c el fr)) (h1 : w'.os = w.os) (h2 : w'.tape = w.tape) (h3 : w'.output = w.output)
    (hfr : ∀ o, o < c.size → ¬ (fr.1 ≤ o ∧ o < fr.2))
    (cs : List PV) (hl : cs.length ≤ c.size) (hc : ∀ (i : Nat) x v, cs[i]? = some x → c[i]? = some v → one v = true ∧ CRel G B x v)
    (ho : Os G w cs c.toList) (hu : ∀ b, obs b cs (c.toList.take cs.length) + (obE b e tm + obB b st (B.map (cellsAt w))) ≤ 1) :
    Sim G (B ++ [⟨w.heap.size, 0, cs.length⟩]) e (st ++ [cs]) tm w' ∧ Prog G w (fun _ => False) G w' ∧
      ∀ b, obB b (st ++ [cs]) ((B ++ [(⟨w.heap.size, 0, cs.length⟩ : Loc)]).map (cellsAt w')) = obB b st (B.map (cellsAt w)) + obs b cs (c.toList.take cs.length) := by
  have hold : ∀ b, b < w.heap.size → w'.heap[b]? = w.heap[b]? := fun b hb => by rw [hh, Array.getElem?_push, if_neg (by omega)]
  have hp : Prog G w (fun _ => False) G w' :=
    ⟨by rw [hh]; simp, fun b hb _ => hold b hb, fun b pc' hp => ⟨[], by simp [hp], fun _ => rfl⟩, fun b hb hn => hn, h1, h2, h3⟩
  have hg := h.grow hp (Ble.refl _) rfl fun b pc' hb hge => by have := h.rowLt hb; omega
  have hnew : w'.heap[w.heap.size]? = some (.cells c el fr) := by rw [hh]; simp
  have hGn : G w.heap.size = none := by
    cases hq : G w.heap.size with
    | none => rfl
    | some pc => have := h.rowLt hq; omega
  have hca : cellsAt w' ⟨w.heap.size, 0, cs.length⟩ = c.toList.take cs.length := by simp [cellsAt, hnew]
  have hcells : B.map (cellsAt w') = B.map (cellsAt w) := by
    apply List.map_congr_left
    intro l hl
    exact cellsAt_congr l (hp.heap _ (h.boxLt hl).1 (by simp))
  have hcnt : ∀ b, obB b (st ++ [cs]) ((B ++ [(⟨w.heap.size, 0, cs.length⟩ : Loc)]).map (cellsAt w')) = obB b st (B.map (cellsAt w)) + obs b cs (c.toList.take cs.length) := by
    intro b
    rw [List.map_append, hcells, obB_append b st [cs] (B.map (cellsAt w)) _ (by simp [h.blen])]
    simp only [List.map_cons, List.map_nil, hca, obB]
    omega
  refine ⟨⟨hg.rows, by simp [h.blen], ?_, ?_, h.elen, ?_, ?_⟩, hp, hcnt⟩
  · intro i j l m hi hj hlm
    rw [List.getElem?_append] at hi hj
    split at hi <;> split at hj
    · exact h.bdis i j l m hi hj hlm
    · rename_i hi' hj'
      have := (h.boxLt (List.mem_of_getElem? hi)).1
      have hj0 := (List.getElem?_eq_some_iff.1 hj)
      simp at hj0
      obtain ⟨_, rfl⟩ := hj0
      simp at hlm; omega
    · rename_i hi' hj'
      have := (h.boxLt (List.mem_of_getElem? hj)).1
      have hj0 := (List.getElem?_eq_some_iff.1 hi)
      simp at hj0
      obtain ⟨_, rfl⟩ := hj0
      simp at hlm; omega
    · have h1 := (List.getElem?_eq_some_iff.1 hi).1
      have h2 := (List.getElem?_eq_some_iff.1 hj).1
      simp at h1 h2; omega
  · intro i l k hi hk
    rw [List.getElem?_append] at hi hk
    rw [h.blen] at hi
    split at hi
    · rename_i hlt
      rw [if_pos hlt] at hk
      have hb := hg.boxes i l k hi hk
      exact hb.keep (Gle.refl _) (Ble.append _ _) rfl hb.row fun _ _ => ⟨rfl, rfl⟩
    · rename_i hlt
      rw [if_neg hlt] at hk
      have h1 := (List.getElem?_eq_some_iff.1 hi)
      simp at h1
      obtain ⟨hi0, rfl⟩ := h1
      rw [hi0] at hk; simp at hk; subst hk
      refine ⟨hGn, ⟨c, el, fr, hnew, by simpa using hl, fun o _ ho => hfr o (by simp at ho; omega)⟩, rfl, ?_, ?_⟩
      · intro j x v hx hv
        rw [hca, List.getElem?_take] at hv
        split at hv
        · obtain ⟨k1, k2⟩ := hc j x v hx (by simpa using hv)
          exact ⟨k1, k2.mono (Gle.refl _) (Ble.append _ _)⟩
        · cases hv
      · rw [hca]
        intro j x v hx hv
        rw [List.getElem?_take] at hv
        split at hv
        · refine (ho j x v hx hv).keep fun b hb => ⟨hold b ?_, rfl⟩
          exact ((ho j x v hx hv).lt hb).1
        · cases hv
  · intro t x v hx hv
    obtain ⟨k1, k2⟩ := hg.rel t x v hx hv
    exact ⟨k1.mono (Gle.refl _) (Ble.append _ _), k2⟩
  · intro b
    have := hu b
    have := hcnt b
    omega
end

end Go.Sim
/- How the relation goes on: boxes written, claims taken out of boxes, rows that grow in place, boxes forgotten. -/
namespace Go.Sim
open PV

theorem length_setCells {α : Type} : ∀ (xs cs : List α) (o : Nat), (setCells cs o xs).length = cs.length
  | [], _, _ => rfl
  | x :: xs, cs, o => by simp [setCells, length_setCells xs]
theorem getElem?_setCells {α : Type} : ∀ (xs cs : List α) (o j : Nat), o + xs.length ≤ cs.length →
    (setCells cs o xs)[j]? = if o ≤ j ∧ j < o + xs.length then xs[j - o]? else cs[j]?
  | [], _, o, j, _ => by simp [setCells]; intro h1 h2; omega
  | x :: xs, cs, o, j, h => by
    simp only [List.length_cons] at h
    rw [setCells, getElem?_setCells xs (cs.set o x) (o + 1) j (by simp; omega)]
    by_cases h1 : o + 1 ≤ j ∧ j < o + 1 + xs.length
    · rw [if_pos h1, if_pos (by simp; omega), show j - o = (j - (o + 1)) + 1 by omega, List.getElem?_cons_succ]
    · rw [if_neg h1]
      by_cases h2 : j = o
      · subst h2
        rw [if_pos (by simp), List.getElem?_set_self (by omega)]; simp
      · rw [if_neg (by simp only [List.length_cons]; omega), List.getElem?_set_ne (Ne.symm h2)]
theorem obs_set_le (b : Nat) (x : PV) (v : Value) : ∀ (cs : List PV) (vs : List Value) (d : Nat), obs b (cs.set d x) (vs.set d v) ≤ ob b x v + obs b cs vs
  | [], _, _ => by simp [obs]
  | _ :: _, [], _ => by simp [obs]
  | y :: e, u :: tm, 0 => by simp [obs]
  | y :: e, u :: tm, d + 1 => by
    have := obs_set_le b x v e tm d
    simp only [List.set_cons_succ, obs]; omega
theorem obs_setCells_le (b : Nat) : ∀ (xs : List PV) (us : List Value) (cs : List PV) (vs : List Value) (o : Nat), xs.length = us.length →
    obs b (setCells cs o xs) (setCells vs o us) ≤ obs b xs us + obs b cs vs
  | [], [], cs, vs, o, _ => by simp [setCells]
  | [], _ :: _, _, _, _, h => by simp at h
  | _ :: _, [], _, _, _, h => by simp at h
  | x :: xs, u :: us, cs, vs, o, h => by
    have h1 := obs_setCells_le b xs us (cs.set o x) (vs.set o u) (o + 1) (by simpa using h)
    have h2 := obs_set_le b x u cs vs o
    simp only [setCells, obs]; omega
theorem obs_append (b : Nat) : ∀ (xs ys : List PV) (vs us : List Value), xs.length = vs.length → obs b (xs ++ ys) (vs ++ us) = obs b xs vs + obs b ys us
  | [], _, [], _, _ => by simp [obs]
  | [], _, _ :: _, _, h => by simp at h
  | _ :: _, _, [], _, h => by simp at h
  | x :: xs, ys, v :: vs, us, h => by
    have := obs_append b xs ys vs us (by simpa using h)
    simp only [List.cons_append, obs]; omega
theorem obs_split (b : Nat) (cs : List PV) (vs : List Value) (k n : Nat) (h : cs.length = vs.length) :
    obs b cs vs = obs b (cs.take k) (vs.take k) + (obs b ((cs.drop k).take n) ((vs.drop k).take n) + obs b (cs.drop (k + n)) (vs.drop (k + n))) := by
  conv => lhs; rw [← List.take_append_drop k cs, ← List.take_append_drop k vs]
  rw [obs_append b _ _ _ _ (by simp [h])]
  congr 1
  conv => lhs; rw [← List.take_append_drop n (cs.drop k), ← List.take_append_drop n (vs.drop k)]
  rw [obs_append b _ _ _ _ (by simp [h]), List.drop_drop, List.drop_drop]
theorem obs_demCells (b : Nat) (cs : List PV) (vs : List Value) (k n : Nat) (h : cs.length = vs.length) :
    obs b (demCells cs k n) vs + obs b ((cs.drop k).take n) ((vs.drop k).take n) = obs b cs vs := by
  have h1 := obs_split b cs vs k n h
  have h2 : obs b (demCells cs k n) vs = obs b (cs.take k) (vs.take k) + (obs b (((cs.drop k).take n).map dem1) ((vs.drop k).take n) + obs b (cs.drop (k + n)) (vs.drop (k + n))) := by
    unfold demCells
    conv => lhs; rw [← List.take_append_drop k vs]
    rw [List.append_assoc, obs_append b _ _ _ _ (by simp [h])]
    congr 1
    conv => lhs; rw [← List.take_append_drop n (vs.drop k)]
    rw [obs_append b _ _ _ _ (by simp [h]), List.drop_drop]
  rw [obs_dem1] at h2; omega

theorem obB_set_le (b : Nat) (x : List PV) (v : List Value) : ∀ (e : List (List PV)) (tm : List (List Value)) (d : Nat) (y : List PV) (u : List Value), e[d]? = some y → tm[d]? = some u →
    obB b (e.set d x) (tm.set d v) + obs b y u = obs b x v + obB b e tm
  | [], _, _, _, _, h, _ => by simp at h
  | _ :: _, [], _, _, _, _, h => by simp at h
  | z :: e, u :: tm, 0, x, v, h, k => by simp at h k; subst h; subst k; simp [obB]; omega
  | z :: e, u :: tm, t + 1, y, v', h, k => by
    simp at h k
    have := obB_set_le b x v e tm t y v' h k
    simp only [List.set_cons_succ, obB]; omega

section
variable {P : Program}

/-- Cells are stored in a block. -/
theorem run_store_cells (g : Nat) (el : TypeId) (fr : Nat × Nat) (o : Nat) : ∀ (vs : List Value) (i : Nat) (c : Array Value) (w : World), w.heap[g]? = some (.cells c el fr) → o + i + vs.length ≤ c.size →
    (∀ j, o + i ≤ j → j < o + i + vs.length → ¬ (fr.1 ≤ j ∧ j < fr.2)) → (∀ v ∈ vs, one v = true) →
    ∃ w' c', (storeCells ⟨g, o, none⟩ vs i).run P w = .ok () w' ∧ w'.heap[g]? = some (.cells c' el fr) ∧ c'.toList = setCells c.toList (o + i) vs ∧ (∀ k, k ≠ g → w'.heap[k]? = w.heap[k]?) ∧
      w'.heap.size = w.heap.size ∧ w'.os = w.os ∧ w'.tape = w.tape ∧ w'.output = w.output
  | [], i, c, w, hg, _, _, _ => ⟨w, c, rfl, hg, rfl, fun _ _ => rfl, rfl, rfl, rfl, rfl⟩
  | v :: rest, i, c, w, hg, hl, hf, h1 => by
    simp only [List.length_cons] at hl hf
    have hadd : (⟨g, o, none⟩ : Addr).add i = ⟨g, o + i, none⟩ := by unfold Addr.add; split <;> simp_all
    have hcell : w.cell? ⟨g, o + i, none⟩ = some c[o + i] := by simp [World.cell?, hg]
    have hfro : w.frozen? ⟨g, o + i, none⟩ = false := by
      have := hf (o + i) (by omega) (by omega)
      obtain ⟨lo, hi⟩ := fr
      simp only [World.frozen?, hg, Bool.and_eq_false_iff, decide_eq_false_iff_not]
      simp only at this; omega
    have hst : (store ((⟨g, o, none⟩ : Addr).add i) v).run P w = .ok () (w.setRow g (c.setIfInBounds (o + i) v)) := by
      rw [hadd, run_store P w _ v _ (h1 v (by simp)), hcell]
      simp [hfro, setCell_eq_setRow w g (o + i) c el fr v hg]
    obtain ⟨w', c', k1, k2, k3, k4, k5, k6, k7, k8⟩ := run_store_cells g el fr o rest (i + 1) (c.setIfInBounds (o + i) v) (w.setRow g (c.setIfInBounds (o + i) v)) (setRow_heap w g c _ el fr hg)
      (by simp; omega) (fun j hj hj' => hf j (by omega) (by omega)) (fun x hx => h1 x (by simp [hx]))
    refine ⟨w', c', ?_, k2, ?_, fun k hk => (k4 k hk).trans (setRow_other w g k _ hk), ?_, k6, k7, k8⟩
    · simp only [storeCells, Sem.run_bind, hst, Result.andThen_ok, k1]
    · rw [k3]; simp only [setCells, Array.toList_setIfInBounds, Nat.add_assoc]
    · rw [k5]; simp
end

section
variable {G : Gh} {B : List Loc} {e : Env} {st : St} {tm : List Value} {w : World} {x : PV} {v : Value}

theorem cellsAt_length {w : World} {l : Loc} {c : Array Value} {el : TypeId} {fr : Nat × Nat} (h : w.heap[l.blk]? = some (.cells c el fr)) (hl : l.off + l.len ≤ c.size) : (cellsAt w l).length = l.len := by
  simp [cellsAt, h]; omega
theorem cellsAt_get {w : World} {l : Loc} {c : Array Value} {el : TypeId} {fr : Nat × Nat} (h : w.heap[l.blk]? = some (.cells c el fr)) (j : Nat) (hj : j < l.len) : (cellsAt w l)[j]? = c[l.off + j]? := by
  simp only [cellsAt, h]
  rw [List.getElem?_take, if_pos hj, List.getElem?_drop]; simp

/-- The value at hand is laid into a box. -/
theorem Sim.boxSet {w' : World} (h : Sim G B (x :: e) st (v :: tm) w) {i k : Nat} {l : Loc} {cs : List PV} (hl : B[i]? = some l) (hc : st[i]? = some cs)
    {c c' : Array Value} {el : TypeId} {fr : Nat × Nat} (hw : w.heap[l.blk]? = some (.cells c el fr)) (hw' : w'.heap[l.blk]? = some (.cells c' el fr)) (hcc : c'.toList = setCells c.toList (l.off + k) v.cells.toList)
    (hoth : ∀ b, b ≠ l.blk → w'.heap[b]? = w.heap[b]?) (hsz : w'.heap.size = w.heap.size) (h1 : w'.os = w.os) (h2 : w'.tape = w.tape) (h3 : w'.output = w.output)
    (hx : ∀ ts, x ≠ .tup ts) (hxv : x.cells.length = v.cells.toList.length) (hk : k + x.cells.length ≤ cs.length)
    (hrel : ∀ (j : Nat) y u, x.cells[j]? = some y → v.cells.toList[j]? = some u → one u = true ∧ CRel G B y u) :
    Sim G B e (st.set i (setCells cs k x.cells)) tm w' ∧ Prog G w (fun b => b = l.blk) G w' ∧
      ∀ b, obE b e tm + obB b (st.set i (setCells cs k x.cells)) (B.map (cellsAt w')) ≤ ob3 b x v + obE b e tm + obB b st (B.map (cellsAt w)) := by
  have hb := h.boxes i l cs hl hc
  obtain ⟨c0, el0, fr0, q1, q2, q3⟩ := hb.heap
  rw [hw] at q1; cases q1
  have hlB : l ∈ B := List.mem_of_getElem? hl
  have hrow : ∀ b pc, G b = some pc → b ≠ l.blk := fun b pc hp e => by rw [e, hb.row] at hp; cases hp
  have hp : Prog G w (fun b => b = l.blk) G w' :=
    ⟨by omega, fun b _ hn => hoth b hn, fun b pc hp => ⟨[], by simpa using hp, fun _ => rfl⟩, fun _ _ hn => hn, h1, h2, h3⟩
  have hst : i < st.length := (List.getElem?_eq_some_iff.1 hc).1
  have hBi : i < B.length := (List.getElem?_eq_some_iff.1 hl).1
  have hlen : cs.length = l.len := hb.len
  have hsize : c'.size = c.size := by
    have := congrArg List.length hcc
    rw [length_setCells] at this; simpa using this
  have hca : cellsAt w' l = setCells (cellsAt w l) k v.cells.toList := by
    apply List.ext_getElem?
    intro j
    have hl1 := cellsAt_length hw q2
    have hl2 := cellsAt_length hw' (by rw [hsize]; exact q2)
    rw [getElem?_setCells _ _ _ _ (by rw [hl1]; omega)]
    by_cases hj : j < l.len
    · rw [cellsAt_get hw' j hj, ← Array.getElem?_toList, hcc, getElem?_setCells _ _ _ _ (by simp only [Array.length_toList] at hxv ⊢; omega)]
      by_cases hh : k ≤ j ∧ j < k + v.cells.toList.length
      · rw [if_pos hh, if_pos (by omega)]
        congr 1; omega
      · rw [if_neg hh, if_neg (by omega), cellsAt_get hw j hj, Array.getElem?_toList]
    · rw [List.getElem?_eq_none (by omega), if_neg (by omega), List.getElem?_eq_none (by omega)]
  have hcm : B.map (cellsAt w') = (B.map (cellsAt w)).set i (setCells (cellsAt w l) k v.cells.toList) := by
    apply List.ext_getElem?
    intro j
    rw [List.getElem?_map]
    by_cases hj : j = i
    · subst hj
      rw [List.getElem?_set_self (by simpa using hBi), hl]; simp [hca]
    · rw [List.getElem?_set_ne (Ne.symm hj), List.getElem?_map]
      cases hB : B[j]? with
      | none => rfl
      | some m =>
        simp only [Option.map_some]
        rw [cellsAt_congr m (hoth _ (fun e => hj (h.bdis j i m l hB hl e)))]
  have hO : ∀ y u, O3 G w y u → O3 G w' y u := fun y u ho => ho.keep fun b hbb => by
    obtain ⟨_, pc, hp⟩ := ho.lt hbb
    exact ⟨hoth b (hrow b pc hp), rfl⟩
  have hOs : ∀ ys us, Os G w ys us → Os G w' ys us := fun y u ho => ho.keep fun b hbb => by
    obtain ⟨_, pc, hp⟩ := ho.lt hbb
    exact ⟨hoth b (hrow b pc hp), rfl⟩
  have hx0 := h.rel 0 x v rfl rfl
  have hOx : Os G w x.cells v.cells.toList := by
    have := hx0.2
    unfold O3 at this
    split at this
    · rename_i ts vs; exact (hx _ rfl).elim
    · exact this
  have hob : ∀ b, ob3 b x v = obs b x.cells v.cells.toList := fun b => by
    unfold ob3; split
    · exact (hx _ rfl).elim
    · rfl
  have hcnt : ∀ b, obE b e tm + obB b (st.set i (setCells cs k x.cells)) (B.map (cellsAt w')) ≤ ob3 b x v + obE b e tm + obB b st (B.map (cellsAt w)) := by
    intro b
    rw [hcm]
    have u2 := obB_set_le b (setCells cs k x.cells) (setCells (cellsAt w l) k v.cells.toList) st (B.map (cellsAt w)) i cs (cellsAt w l) hc (by rw [List.getElem?_map, hl]; rfl)
    have u3 := obs_setCells_le b x.cells v.cells.toList cs (cellsAt w l) k hxv
    rw [hob]
    omega
  refine ⟨⟨?_, by simp [h.blen], h.bdis, ?_, by simpa using h.elen, ?_, ?_⟩, hp, hcnt⟩
  · intro b pc hb'
    rw [hoth b (hrow b pc hb')]; exact h.rows b pc hb'
  · intro j m ks hm hks
    by_cases hj : j = i
    · subst hj
      rw [hl] at hm; cases hm
      rw [List.getElem?_set_self hst] at hks; cases hks
      refine ⟨hb.row, ⟨c', el, fr, hw', by omega, q3⟩, by rw [length_setCells]; exact hlen, ?_, ?_⟩
      · intro j y u hy hu
        rw [hca, getElem?_setCells _ _ _ _ (by rw [cellsAt_length hw q2]; omega)] at hu
        rw [getElem?_setCells _ _ _ _ hk] at hy
        by_cases hh : k ≤ j ∧ j < k + x.cells.length
        · rw [if_pos hh] at hy; rw [if_pos (by omega)] at hu
          exact hrel _ y u hy hu
        · rw [if_neg hh] at hy; rw [if_neg (by omega)] at hu
          exact hb.cells j y u hy hu
      · rw [hca]
        intro j y u hy hu
        rw [getElem?_setCells _ _ _ _ (by rw [cellsAt_length hw q2]; omega)] at hu
        rw [getElem?_setCells _ _ _ _ hk] at hy
        by_cases hh : k ≤ j ∧ j < k + x.cells.length
        · rw [if_pos hh] at hy; rw [if_pos (by omega)] at hu
          exact hOs _ _ hOx _ y u hy hu
        · rw [if_neg hh] at hy; rw [if_neg (by omega)] at hu
          exact hOs _ _ hb.own _ y u hy hu
    · rw [List.getElem?_set_ne (Ne.symm hj)] at hks
      have hbm := h.boxes j m ks hm hks
      have hne : m.blk ≠ l.blk := fun e => hj (h.bdis j i m l hm hl e)
      refine hbm.keep (Gle.refl _) (Ble.refl _) (hoth _ hne) hbm.row fun b hbb => ?_
      obtain ⟨_, pc, hp⟩ := hbm.own.lt hbb
      exact ⟨hoth b (hrow b pc hp), rfl⟩
  · intro t y u hy hu
    obtain ⟨k1, k2⟩ := h.rel (t + 1) y u (by simpa using hy) (by simpa using hu)
    exact ⟨k1, hO _ _ k2⟩
  · intro b
    have u1 := h.uniq b
    have u2 := hcnt b
    simp only [obE] at u1
    omega

/-- The claims of cells of a box are taken out. -/
theorem Sim.boxTake (h : Sim G B e st tm w) {i k n : Nat} {l : Loc} {cs : List PV} (hl : B[i]? = some l) (hc : st[i]? = some cs) (hk : k + n ≤ cs.length)
    (hx : ∀ ts, x ≠ .tup ts) (hxc : x.cells = (cs.drop k).take n) (hvc : v.cells.toList = ((cellsAt w l).drop k).take n) (hv : VRel G B x v) :
    Sim G B (x :: e) (st.set i (demCells cs k n)) (v :: tm) w ∧ ∀ b, ob3 b x v + obB b (st.set i (demCells cs k n)) (B.map (cellsAt w)) = obB b st (B.map (cellsAt w)) := by
  have hb := h.boxes i l cs hl hc
  have hst : i < st.length := (List.getElem?_eq_some_iff.1 hc).1
  have hBi : i < B.length := (List.getElem?_eq_some_iff.1 hl).1
  obtain ⟨c, el, fr, q1, q2, q3⟩ := hb.heap
  have hlen : cs.length = (cellsAt w l).length := by rw [cellsAt_length q1 q2]; exact hb.len
  have hob : ∀ b, ob3 b x v = obs b ((cs.drop k).take n) (((cellsAt w l).drop k).take n) := fun b => by
    rw [← hxc, ← hvc]; unfold ob3; split
    · exact (hx _ rfl).elim
    · rfl
  have hget : ∀ (j : Nat) y, (demCells cs k n)[j]? = some y → ∃ z, cs[j]? = some z ∧ (y = z ∨ y = dem1 z) := by
    intro j y hy
    unfold demCells at hy
    rw [List.append_assoc, List.getElem?_append] at hy
    split at hy
    · rename_i hj
      rw [List.length_take] at hj
      rw [List.getElem?_take, if_pos (by omega)] at hy
      exact ⟨y, hy, .inl rfl⟩
    · rename_i hj
      rw [List.getElem?_append] at hy
      split at hy
      · rename_i hj2
        rw [List.getElem?_map] at hy
        obtain ⟨z, hz, rfl⟩ := Option.map_eq_some_iff.1 hy
        rw [List.getElem?_take] at hz
        split at hz
        · rw [List.getElem?_drop] at hz
          refine ⟨z, ?_, .inr rfl⟩
          simp at hj
          rw [← hz]; congr 1
          simp; omega
        · cases hz
      · rename_i hj2
        rw [List.getElem?_drop] at hy
        refine ⟨y, ?_, .inl rfl⟩
        simp at hj hj2
        rw [← hy]; congr 1
        simp; omega
  have hdl : (demCells cs k n).length = cs.length := by unfold demCells; simp; omega
  have hs : Sim G B e (st.set i (demCells cs k n)) tm w :=
    { h with
      blen := by simp [h.blen]
      boxes := fun j m ks hm hks => by
        by_cases hj : j = i
        · subst hj
          rw [hl] at hm; cases hm
          rw [List.getElem?_set_self hst] at hks; cases hks
          refine ⟨hb.row, hb.heap, by rw [hdl]; exact hb.len, ?_, ?_⟩
          · intro j y u hy hu
            obtain ⟨z, hz, hyz⟩ := hget j y hy
            obtain ⟨k1, k2⟩ := hb.cells j z u hz hu
            rcases hyz with rfl | rfl
            · exact ⟨k1, k2⟩
            · exact ⟨k1, CRel_dem1.2 k2⟩
          · intro j y u hy hu
            obtain ⟨z, hz, hyz⟩ := hget j y hy
            rcases hyz with rfl | rfl
            · exact hb.own j y u hz hu
            · exact O1_dem1 _ _ _ _
        · rw [List.getElem?_set_ne (Ne.symm hj)] at hks
          exact h.boxes j m ks hm hks
      uniq := fun b => by
        have u1 := h.uniq b
        have u2 := obB_set_le b (demCells cs k n) (cellsAt w l) st (B.map (cellsAt w)) i cs (cellsAt w l) hc (by rw [List.getElem?_map, hl]; rfl)
        have u3 := obs_demCells b cs (cellsAt w l) k n hlen
        have hset : (B.map (cellsAt w)).set i (cellsAt w l) = B.map (cellsAt w) := by
          apply List.ext_getElem?
          intro j
          by_cases hj : j = i
          · subst hj; rw [List.getElem?_set_self (by simpa using hBi), List.getElem?_map, hl]; rfl
          · rw [List.getElem?_set_ne (Ne.symm hj)]
        rw [hset] at u2
        omega }
  have hcnt : ∀ b, ob3 b x v + obB b (st.set i (demCells cs k n)) (B.map (cellsAt w)) = obB b st (B.map (cellsAt w)) := by
    intro b
    have u2 := obB_set_le b (demCells cs k n) (cellsAt w l) st (B.map (cellsAt w)) i cs (cellsAt w l) hc (by rw [List.getElem?_map, hl]; rfl)
    have u3 := obs_demCells b cs (cellsAt w l) k n hlen
    have hset : (B.map (cellsAt w)).set i (cellsAt w l) = B.map (cellsAt w) := by
      apply List.ext_getElem?
      intro j
      by_cases hj : j = i
      · subst hj; rw [List.getElem?_set_self (by simpa using hBi), List.getElem?_map, hl]; rfl
      · rw [List.getElem?_set_ne (Ne.symm hj)]
    rw [hset] at u2
    rw [hob]
    omega
  refine ⟨hs.push hv ?_ fun b => by have := h.uniq b; have := hcnt b; omega, hcnt⟩
  have : Os G w x.cells v.cells.toList := by
    rw [hxc, hvc]
    intro j y u hy hu
    rw [List.getElem?_take] at hy hu
    split at hy
    · rename_i hj
      rw [if_pos hj] at hu
      rw [List.getElem?_drop] at hy hu
      exact hb.own _ y u hy hu
    · cases hy
  unfold O3; split
  · exact (hx _ rfl).elim
  · exact this
end

end Go.Sim
/- How the relation goes on: a row grows in place; boxes are forgotten or numbered anew. -/
namespace Go.Sim
open PV

section
variable {G : Gh} {B : List Loc} {e : Env} {st : St} {tm : List Value} {w : World} {x : PV} {v : Value}

theorem length_flatMap_cells {sz : Nat} : ∀ {xs : List PV}, (∀ x ∈ xs, x.cells.length = sz) → (xs.flatMap cells).length = xs.length * sz
  | [], _ => by simp
  | x :: xs, h => by
    have := length_flatMap_cells (xs := xs) fun y hy => h y (by simp [hy])
    simp only [List.flatMap_cons, List.length_append, List.length_cons, this, h x (by simp)]
    rw [Nat.add_mul]; omega

/-- The cells that a known owner's row holds. -/
theorem row_of_own {sz cap : Nat} {nl : Bool} {xs : List PV} {ad : Addr} {n : Nat} (hv : CRel G B (.sl sz nl true xs) (.slice (some ad) n cap)) (ho : O1 G w (.sl sz nl true xs) (.slice (some ad) n cap)) :
    n = xs.length ∧ nl = false ∧ ad = ⟨ad.block, 0, none⟩ ∧ sz ≠ 0 ∧ n ≤ cap ∧ cap ≤ maxLen ∧ (∀ x ∈ xs, x.cells.length = sz) ∧ G ad.block = some (xs.flatMap cells) ∧ (xs.flatMap cells).length = n * sz ∧
      ∃ c e, w.heap[ad.block]? = some (.cells c e (0, 0)) ∧ c.size = cap * sz := by
  obtain ⟨a, cap', h1, h2, h3, h4, h5⟩ := hv
  cases h1
  obtain ⟨k1, k2, k3, c, el, pc, k4, k5, k6, k7⟩ := ho
  obtain ⟨h6, _, h8⟩ := h5
  have hlen := length_flatMap_cells h4
  have hpc : pc = xs.flatMap cells := by
    by_cases hx : xs = []
    · subst hx
      simp at k7; simpa using k7
    · obtain ⟨pc', h9, h10⟩ := h8 hx
      rw [k6] at h9; cases h9
      apply List.ext_getElem?
      intro i
      rw [k1] at h10
      by_cases hi : i < (xs.flatMap cells).length
      · have := h10 i _ (List.getElem?_eq_getElem hi)
        rw [Nat.zero_add] at this
        rw [this, List.getElem?_eq_getElem hi]
      · rw [List.getElem?_eq_none (by omega), List.getElem?_eq_none (by omega)]
  subst hpc
  refine ⟨rfl, h6, ?_, k3, h2, h3, h4, k6, hlen, c, el, k4, k5⟩
  cases ad; simp_all

theorem Sim.growRow {w' : World} {sz cap n : Nat} {nl : Bool} {xs ys : List PV} {ad : Addr} (h : Sim G B (.sl sz nl true xs :: e) st (.slice (some ad) n cap :: tm) w)
    (hy : ∀ y ∈ ys, y.cells.length = sz) (hyp : ∀ y ∈ ys, y.cells.all plain1 = true) (us : List Value) (hus : us.length = (ys.flatMap cells).length)
    (hrel : ∀ (i : Nat) y u, (ys.flatMap cells)[i]? = some y → us[i]? = some u → one u = true ∧ CRel G [] y u) (hroom : n + ys.length ≤ cap)
    {c c' : Array Value} {el : TypeId} (hw : w.heap[ad.block]? = some (.cells c el (0, 0))) (hw' : w'.heap[ad.block]? = some (.cells c' el (0, 0))) (hcc : c'.toList = setCells c.toList (n * sz) us)
    (hoth : ∀ b, b ≠ ad.block → w'.heap[b]? = w.heap[b]?) (hsz : w'.heap.size = w.heap.size) (h1 : w'.os = w.os) (h2 : w'.tape = w.tape) (h3 : w'.output = w.output) :
    ∃ G', Sim G' B (.sl sz nl true (xs ++ ys) :: e) st (.slice (some ad) (n + ys.length) cap :: tm) w' ∧ Prog G w (fun b => b = ad.block) G' w' := by
  obtain ⟨hv0, ho0⟩ := h.rel 0 _ _ rfl rfl
  have ho1 : O1 G w (.sl sz nl true xs) (.slice (some ad) n cap) := ho0 0 _ _ rfl rfl
  obtain ⟨rfl, rfl, had, hz, hnc, hcm, hxc, hG, hlen, c0, el0, q1, q2⟩ := row_of_own (B := B) hv0 ho1
  rw [hw] at q1; cases q1
  have hylen := length_flatMap_cells hy
  have hfit : xs.length * sz + us.length ≤ c.toList.length := by
    have hcl : c.toList.length = cap * sz := by simp [q2]
    rw [hus, hylen, ← Nat.add_mul, hcl]
    exact Nat.mul_le_mul_right _ hroom
  have hsize : c'.size = c.size := by
    have := congrArg List.length hcc
    rw [length_setCells] at this; simpa using this
  let G' := updG G ad.block (xs.flatMap cells ++ ys.flatMap cells)
  have hG' : ∀ b, b ≠ ad.block → G' b = G b := fun b hb => by simp [G', updG, hb]
  have hGb : G' ad.block = some (xs.flatMap cells ++ ys.flatMap cells) := by simp [G', updG]
  have hp : Prog G w (fun b => b = ad.block) G' w' := by
    refine ⟨by omega, fun b _ hn => hoth b hn, fun b pc hp => ?_, fun b _ hn => ?_, h1, h2, h3⟩
    · by_cases hb : b = ad.block
      · subst hb
        rw [hG] at hp; cases hp
        exact ⟨_, hGb, fun hn => (hn rfl).elim⟩
      · exact ⟨[], by rw [hG' b hb, hp]; simp, fun _ => rfl⟩
    · by_cases hb : b = ad.block
      · subst hb; rw [hG] at hn; cases hn
      · rw [hG' b hb]; exact hn
  have hu : ∀ b, 0 < obE b e tm + obB b st (B.map (cellsAt w)) → b ≠ ad.block := fun b hb hbe => by
    have := h.uniq b
    subst hbe
    have h0 : ob3 ad.block (.sl sz false true xs) (.slice (some ad) xs.length cap) = 1 := by simp [ob3, cells, Value.cells, obs, ob]
    simp only [obE, h0] at this; omega
  have hbl : ∀ (i : Nat) l cs, B[i]? = some l → st[i]? = some cs → l.blk ≠ ad.block := fun i l cs hl hc he => by
    have := (h.boxes i l cs hl hc).row
    rw [he, hG] at this; cases this
  have hcells : B.map (cellsAt w') = B.map (cellsAt w) := by
    apply List.map_congr_left
    intro l hl
    refine cellsAt_congr l (hoth _ fun he => ?_)
    have := (h.boxLt hl).2
    rw [he, hG] at this; cases this
  refine ⟨G', ⟨?_, h.blen, h.bdis, ?_, by simpa using h.elen, ?_, ?_⟩, hp⟩
  · intro b pc hb
    by_cases hbe : b = ad.block
    · subst hbe
      rw [hGb] at hb; cases hb
      refine ⟨c', el, (0, 0), hw', ?_, fun i y hy' => ?_⟩
      · rw [List.length_append, hsize, hlen, ← hus]; simpa using hfit
      · rw [← Array.getElem?_toList, hcc, getElem?_setCells _ _ _ _ hfit]
        rw [List.getElem?_append] at hy'
        split at hy'
        · rename_i hlt
          rw [if_neg (by omega)]
          obtain ⟨c1, e1, f1, r1, r2, r3⟩ := h.rows _ _ hG
          rw [hw] at r1; cases r1
          obtain ⟨s1, u, s2, s3, s4⟩ := r3 i y hy'
          exact ⟨s1, u, by simpa using s2, s3, s4.mono hp.gle (Ble.refl _)⟩
        · rename_i hge
          have hi := (List.getElem?_eq_some_iff.1 hy').1
          rw [if_pos (by omega)]
          rw [hlen] at hy' hi
          obtain ⟨u, hu'⟩ : ∃ u, us[i - xs.length * sz]? = some u := ⟨_, List.getElem?_eq_getElem (by omega)⟩
          obtain ⟨s3, s4⟩ := hrel _ y u hy' hu'
          refine ⟨?_, u, hu', s3, s4.mono hp.gle (Ble.refl _)⟩
          obtain ⟨z, hz1, hz2⟩ := List.mem_flatMap.1 (List.mem_of_getElem? hy')
          exact List.all_eq_true.1 (hyp z hz1) y hz2
    · rw [hG' b hbe] at hb
      obtain ⟨c1, e1, f1, r1, r2, r3⟩ := h.rows b pc hb
      refine ⟨c1, e1, f1, by rw [hoth b hbe]; exact r1, r2, fun i y hy' => ?_⟩
      obtain ⟨s1, u, s2, s3, s4⟩ := r3 i y hy'
      exact ⟨s1, u, s2, s3, s4.mono hp.gle (Ble.refl _)⟩
  · intro i l cs hl hc
    have hb := h.boxes i l cs hl hc
    refine hb.keep hp.gle (Ble.refl _) (hoth _ (hbl i l cs hl hc)) (by rw [hG' _ (hbl i l cs hl hc)]; exact hb.row) fun b hbb => ?_
    have hne : b ≠ ad.block := hu b (by
      have := obB_pos (b := b) hc (show (B.map (cellsAt w))[i]? = some (cellsAt w l) by rw [List.getElem?_map, hl]; rfl)
      omega)
    exact ⟨hoth b hne, hG' b hne⟩
  · intro t y u hy' hu'
    cases t with
    | zero =>
      simp at hy' hu'
      subst hy'; subst hu'
      constructor
      · refine ⟨some ad, cap, by simp, by simp; omega, hcm, ?_, rfl, by rw [had], fun _ => ⟨_, hGb, ?_⟩⟩
        · intro z hz'
          rcases List.mem_append.1 hz' with hz' | hz'
          · exact hxc z hz'
          · exact hy z hz'
        · rw [had]
          intro i z hz'
          simpa using hz'
      · intro i z q hz' hq
        cases i with
        | zero =>
          simp [cells, Value.cells] at hz' hq
          subst hz'; subst hq
          refine ⟨by rw [had], by rw [had], hz, c', el, _, hw', by rw [hsize, q2], hGb, ?_⟩
          rw [List.length_append, hlen, hylen, Nat.add_mul]
        | succ i => simp [cells] at hz'
    | succ t =>
      obtain ⟨k1, k2⟩ := h.rel (t + 1) y u hy' hu'
      refine ⟨k1.mono hp.gle (Ble.refl _), k2.keep fun b hbb => ?_⟩
      simp at hy' hu'
      have hne : b ≠ ad.block := hu b (by
        have := obE_pos (b := b) hy' hu'
        omega)
      exact ⟨hoth b hne, hG' b hne⟩
  · intro b
    rw [hcells]
    have := h.uniq b
    simp only [obE] at this ⊢
    have h0 : ob3 b (.sl sz false true (xs ++ ys)) (.slice (some ad) (xs.length + ys.length) cap) = ob3 b (.sl sz false true xs) (.slice (some ad) xs.length cap) := by
      simp [ob3, cells, Value.cells, obs, ob]
    rw [h0]; exact this

/-- Claims of chosen boxes, all of them different, are no more than those of all boxes. -/
theorem sum_chosen (b : Nat) : ∀ (L : List Nat) (xs : List (List PV)) (vs : List (List Value)), L.Nodup → xs.length = vs.length → (∀ i ∈ L, i < xs.length) →
    (L.map fun i => obs b (xs.getD i []) (vs.getD i [])).sum ≤ obB b xs vs
  | [], _, _, _, _, _ => by simp
  | i :: L, xs, vs, hn, hl, hi => by
    have hlt : i < xs.length := hi i (by simp)
    have h1 : xs[i]? = some (xs.getD i []) := by rw [List.getD_eq_getElem?_getD, List.getElem?_eq_getElem hlt]; rfl
    have h2 : vs[i]? = some (vs.getD i []) := by rw [List.getD_eq_getElem?_getD, List.getElem?_eq_getElem (by omega)]; rfl
    have h3 := obB_set_le b [] [] xs vs i _ _ h1 h2
    have ih := sum_chosen b L (xs.set i []) (vs.set i []) (List.nodup_cons.1 hn).2 (by simp [hl]) (fun j hj => by simpa using hi j (by simp [hj]))
    have he : (L.map fun i_1 => obs b ((xs.set i []).getD i_1 []) ((vs.set i []).getD i_1 [])) = L.map fun i => obs b (xs.getD i []) (vs.getD i []) := by
      apply List.map_congr_left
      intro j hj
      have hji : i ≠ j := fun e => (List.nodup_cons.1 hn).1 (e ▸ hj)
      simp only [List.getD_eq_getElem?_getD, List.getElem?_set_ne hji]
    rw [he] at ih
    simp only [obs] at h3
    simp only [List.map_cons, List.sum_cons]
    omega

theorem obB_map (b : Nat) (f : Nat → List PV) (g : Nat → List Value) : ∀ (L : List Nat), obB b (L.map f) (L.map g) = (L.map fun i => obs b (f i) (g i)).sum
  | [] => by simp [obB]
  | i :: L => by simp [obB, obB_map b f g L]

theorem newBoxes_spec (k : Nat) : ∀ (vs : List PV) (l : List Nat), l.Nodup → (∀ b ∈ l, k ≤ b) →
    (newBoxes k vs l).Nodup ∧ (∀ b ∈ newBoxes k vs l, k ≤ b) ∧ ∀ b ∈ newBoxes k vs l, b ∈ l ∨ (∃ o, PV.ptr b o ∈ vs) ∨ ∃ sz fl o n, PV.msl sz fl b o n ∈ vs
  | [], l, h, h' => ⟨h, h', fun b hb => .inl hb⟩
  | v :: vs, l, h, h' => by
    have key : ∀ b, b ≥ k → b ∉ l → (∃ o, v = .ptr b o) ∨ (∃ sz fl o n, v = .msl sz fl b o n) →
        (newBoxes k vs (l ++ [b])).Nodup ∧ (∀ b' ∈ newBoxes k vs (l ++ [b]), k ≤ b') ∧ ∀ b' ∈ newBoxes k vs (l ++ [b]), b' ∈ l ∨ (∃ o, PV.ptr b' o ∈ v :: vs) ∨ ∃ sz fl o n, PV.msl sz fl b' o n ∈ v :: vs := by
      intro b hb hbl hv
      obtain ⟨a1, a2, a3⟩ := newBoxes_spec k vs (l ++ [b]) (by
        rw [List.nodup_append]; exact ⟨h, by simp, by simp; intro a ha e; exact hbl (e ▸ ha)⟩) (by intro b' hb'; rcases List.mem_append.1 hb' with q | q; exact h' b' q; simp at q; omega)
      refine ⟨a1, a2, fun b' hb' => ?_⟩
      rcases a3 b' hb' with q | ⟨o, q⟩ | ⟨sz, fl, o, n, q⟩
      · rcases List.mem_append.1 q with q | q
        · exact .inl q
        · simp at q; subst q
          rcases hv with ⟨o, rfl⟩ | ⟨sz, fl, o, n, rfl⟩
          · exact .inr (.inl ⟨o, by simp⟩)
          · exact .inr (.inr ⟨sz, fl, o, n, by simp⟩)
      · exact .inr (.inl ⟨o, by simp [q]⟩)
      · exact .inr (.inr ⟨sz, fl, o, n, by simp [q]⟩)
    have skip : (newBoxes k vs l).Nodup ∧ (∀ b' ∈ newBoxes k vs l, k ≤ b') ∧ ∀ b' ∈ newBoxes k vs l, b' ∈ l ∨ (∃ o, PV.ptr b' o ∈ v :: vs) ∨ ∃ sz fl o n, PV.msl sz fl b' o n ∈ v :: vs := by
      obtain ⟨a1, a2, a3⟩ := newBoxes_spec k vs l h h'
      refine ⟨a1, a2, fun b' hb' => ?_⟩
      rcases a3 b' hb' with q | ⟨o, q⟩ | ⟨sz, fl, o, n, q⟩
      · exact .inl q
      · exact .inr (.inl ⟨o, by simp [q]⟩)
      · exact .inr (.inr ⟨sz, fl, o, n, by simp [q]⟩)
    cases v with
    | ptr b o =>
      simp only [newBoxes]
      split
      · exact skip
      · rename_i hn; simp at hn
        exact key b hn.1 hn.2 (.inl ⟨o, rfl⟩)
    | msl sz fl b o n =>
      simp only [newBoxes]
      split
      · exact skip
      · rename_i hn; simp at hn
        exact key b hn.1 hn.2 (.inr ⟨sz, fl, o, n, rfl⟩)
    | _ => exact skip

theorem obs_scrub1 (b k : Nat) (l : List Nat) : ∀ (cs : List PV) (vs : List Value), obs b (cs.map (scrub1 k l)) vs ≤ obs b cs vs
  | [], _ => by simp [obs]
  | _ :: _, [] => by simp [obs]
  | x :: cs, v :: vs => by
    have ih := obs_scrub1 b k l cs vs
    have h1 : ob b (scrub1 k l x) v ≤ ob b x v := by
      cases x <;> simp only [scrub1] <;> first | exact Nat.le_refl _ | (split <;> simp [ob])
    simp only [List.map_cons, obs]; omega
theorem obs_scrub2 (b k : Nat) (l : List Nat) (x : PV) (v : Value) : obs b (scrub2 k l x).cells v.cells.toList ≤ obs b x.cells v.cells.toList := by
  cases x with
  | agg cs =>
    simp only [scrub2]
    split
    · exact Nat.le_refl _
    · simp only [cells]
      cases v.cells.toList <;> simp [obs, ob]
  | ptr b o => simp only [scrub2, scrub1]; split <;> (cases v.cells.toList <;> simp [cells, obs, ob])
  | msl a1 a2 a3 a4 a5 => simp only [scrub2, scrub1]; split <;> (cases v.cells.toList <;> simp [cells, obs, ob])
  | _ => exact Nat.le_refl _
theorem ob3_scrub (b k : Nat) (l : List Nat) (x : PV) (v : Value) : ob3 b (PV.scrub k l x) v ≤ ob3 b x v := by
  cases x with
  | tup ts =>
    cases v with
    | tuple vs =>
      simp only [PV.scrub, ob3]
      generalize vs.toList = us
      induction ts generalizing us with
      | nil => simp
      | cons t ts ih =>
        cases us with
        | nil => simp
        | cons u us =>
          have := ih us
          have h1 := obs_scrub2 b k l t u
          simp only [List.map_cons, List.zipWith_cons_cons, List.sum_cons]; omega
    | _ => simp [PV.scrub, ob3, obs_tup, cells]
  | agg cs =>
    by_cases hf : cs.all PV.flat1 = true
    · simp only [PV.scrub, scrub2, hf, if_true]; exact Nat.le_refl _
    · simp only [PV.scrub, scrub2, hf]
      simp only [ob3, cells, Bool.false_eq_true, if_false]
      cases v.cells.toList <;> simp [obs, ob]
  | ptr b o => simp only [PV.scrub, scrub2, scrub1]; split <;> (simp only [ob3, cells]; cases v.cells.toList <;> simp [obs, ob])
  | msl a1 a2 a3 a4 a5 => simp only [PV.scrub, scrub2, scrub1]; split <;> (simp only [ob3, cells]; cases v.cells.toList <;> simp [obs, ob])
  | _ => exact Nat.le_refl _
theorem obE_scrub (b k : Nat) (l : List Nat) : ∀ (e : Env) (tm : List Value), obE b (e.map (PV.scrub k l)) tm ≤ obE b e tm
  | [], _ => by simp [obE]
  | _ :: _, [] => by simp [obE]
  | x :: e, v :: tm => by
    have := obE_scrub b k l e tm
    have h1 := ob3_scrub b k l x v
    simp only [List.map_cons, obE]; omega

theorem CRel.scrub1 {B' : List Loc} {k : Nat} {l : List Nat} (hB : ∀ b b', scrubId k l b = some b' → ∀ m, B[b]? = some m → B'[b']? = some m) (h : CRel G B x v) : CRel G B' (scrub1 k l x) v := by
  cases x with
  | ptr b o =>
    simp only [PV.scrub1]
    split
    · rename_i b' hb'
      obtain ⟨m, h1, h2⟩ := h
      exact ⟨m, hB b b' hb' m h1, h2⟩
    · trivial
  | msl sz fl b o n =>
    simp only [PV.scrub1]
    split
    · rename_i b' hb'
      obtain ⟨m, cap, h1, h2⟩ := h
      exact ⟨m, cap, hB b b' hb' m h1, h2⟩
    · trivial
  | _ => exact h
theorem CRel.flat1 {B' : List Loc} (hx : x.flat1 = true) (h : CRel G B x v) : CRel G B' x v := by
  cases x <;> simp only [PV.flat1] at hx <;> first | exact h | cases hx
theorem VRel2.scrub {B' : List Loc} {k : Nat} {l : List Nat} (hB : ∀ b b', scrubId k l b = some b' → ∀ m, B[b]? = some m → B'[b']? = some m) (h : VRel2 G B x v) : VRel2 G B' (scrub2 k l x) v := by
  cases x with
  | agg cs =>
    simp only [PV.scrub2]
    split
    · rename_i hf
      obtain ⟨vs, h1, h2, h3⟩ := h
      exact ⟨vs, h1, h2, fun i x y hx hy => (h3 i x y hx hy).flat1 (List.all_eq_true.1 hf x (List.mem_of_getElem? hx))⟩
    · trivial
  | ptr b o =>
    have := CRel.scrub1 (G := G) (v := v) (x := .ptr b o) hB h
    simp only [PV.scrub2, PV.scrub1] at this ⊢
    split at this <;> exact this
  | msl sz fl b o n =>
    have := CRel.scrub1 (G := G) (v := v) (x := .msl sz fl b o n) hB h
    simp only [PV.scrub2, PV.scrub1] at this ⊢
    split at this <;> exact this
  | _ => exact h
theorem VRel.scrub {B' : List Loc} {k : Nat} {l : List Nat} (hB : ∀ b b', scrubId k l b = some b' → ∀ m, B[b]? = some m → B'[b']? = some m) (h : VRel G B x v) : VRel G B' (PV.scrub k l x) v := by
  cases x with
  | tup ts =>
    obtain ⟨vs, h1, h2, h3⟩ := h
    refine ⟨vs, h1, by simpa using h2, fun i x y hx hy => ?_⟩
    rw [List.getElem?_map] at hx
    obtain ⟨x0, hx0, rfl⟩ := Option.map_eq_some_iff.1 hx
    exact (h3 i x0 y hx0 hy).scrub hB
  | agg cs =>
    have := VRel2.scrub (G := G) (v := v) (x := .agg cs) hB h
    simp only [PV.scrub, PV.scrub2] at this ⊢
    split at this <;> (rename_i hh; simp only [hh]; exact this)
  | ptr b o =>
    have := VRel2.scrub (G := G) (v := v) (x := .ptr b o) hB h
    simp only [PV.scrub, PV.scrub2, PV.scrub1] at this ⊢
    split at this <;> exact this
  | msl sz fl b o n =>
    have := VRel2.scrub (G := G) (v := v) (x := .msl sz fl b o n) hB h
    simp only [PV.scrub, PV.scrub2, PV.scrub1] at this ⊢
    split at this <;> exact this
  | _ => exact h
theorem O1.scrub1 {k : Nat} {l : List Nat} (h : O1 G w x v) : O1 G w (scrub1 k l x) v := by
  cases x with
  | ptr b o => simp only [PV.scrub1]; split <;> trivial
  | msl sz fl b o n => simp only [PV.scrub1]; split <;> trivial
  | _ => exact h
theorem Os.scrub2 {k : Nat} {l : List Nat} {vs : List Value} (h : Os G w x.cells vs) : Os G w (scrub2 k l x).cells vs := by
  cases x with
  | agg cs =>
    simp only [PV.scrub2]
    split
    · exact h
    · intro i y u hy hu
      cases i <;> simp [cells] at hy
      subst hy; trivial
  | ptr b o =>
    intro i y u hy hu
    simp only [PV.scrub2, PV.scrub1] at hy
    cases i <;> (split at hy <;> simp [cells] at hy)
    all_goals (subst hy; trivial)
  | msl sz fl b o n =>
    intro i y u hy hu
    simp only [PV.scrub2, PV.scrub1] at hy
    cases i <;> (split at hy <;> simp [cells] at hy)
    all_goals (subst hy; trivial)
  | _ => exact h
theorem O3.scrub {k : Nat} {l : List Nat} (h : O3 G w x v) : O3 G w (PV.scrub k l x) v := by
  cases x with
  | tup ts =>
    cases v with
    | tuple vs =>
      intro i x v hx hv
      rw [List.getElem?_map] at hx
      obtain ⟨x0, hx0, rfl⟩ := Option.map_eq_some_iff.1 hx
      exact (h i x0 v hx0 hv).scrub2
    | _ =>
      intro i y u hy hu
      cases i <;> simp [PV.scrub, cells] at hy
      subst hy; trivial
  | agg cs =>
    have h1 : Os G w (PV.agg cs).cells v.cells.toList := h
    have := h1.scrub2 (k := k) (l := l)
    simp only [PV.scrub]
    unfold O3
    split
    · rename_i heq; simp only [PV.scrub2] at heq; split at heq <;> cases heq
    · exact this
  | ptr b o =>
    simp only [PV.scrub, PV.scrub2, PV.scrub1]
    split <;> (intro i y u hy hu; cases i <;> simp [cells] at hy; subst hy; trivial)
  | msl sz fl b o n =>
    simp only [PV.scrub, PV.scrub2, PV.scrub1]
    split <;> (intro i y u hy hu; cases i <;> simp [cells] at hy; subst hy; trivial)
  | _ => exact h

theorem obB_scrub_le (b k : Nat) (l : List Nat) : ∀ (L : List Nat), (∀ i ∈ L, i < B.length) →
    obB b (L.map fun i => (st.getD i []).map (PV.scrub1 k l)) (L.map (cellsAt w ∘ fun i => B.getD i ⟨0, 0, 0⟩)) ≤ (L.map fun i => obs b (st.getD i []) ((B.map (cellsAt w)).getD i [])).sum
  | [], _ => by simp [obB]
  | i :: L, hLB => by
    have ih' := obB_scrub_le b k l L fun j hj => hLB j (by simp [hj])
    have hi := hLB i (by simp)
    have hh : (B.map (cellsAt w)).getD i [] = cellsAt w (B.getD i ⟨0, 0, 0⟩) := by
      simp only [List.getD_eq_getElem?_getD, List.getElem?_map, List.getElem?_eq_getElem hi]; rfl
    have hs := obs_scrub1 b k l (st.getD i []) (cellsAt w (B.getD i ⟨0, 0, 0⟩))
    simp only [List.map_cons, List.sum_cons, obB, hh, Function.comp_apply] at ih' ⊢
    omega

/-- Boxes from k on are forgotten, but for those in l, which are numbered anew. -/
theorem Sim.scrub (h : Sim G B e st tm w) (k : Nat) (l : List Nat) (hl : l.Nodup) (hk : ∀ b ∈ l, k ≤ b) (hlt : ∀ b ∈ l, b < st.length) (hks : k ≤ st.length) :
    ∃ B', Sim G B' (e.map (PV.scrub k l)) (scrubSt k l st) tm w ∧ (∀ m ∈ B', m ∈ B) ∧ (∀ b, obE b (e.map (PV.scrub k l)) tm + obB b (scrubSt k l st) (B'.map (cellsAt w)) ≤ obE b e tm + obB b st (B.map (cellsAt w))) ∧
      B'.length = k + l.length ∧ B'.take k = B.take k := by
  let L : List Nat := List.range k ++ l
  have hLn : L.Nodup := by
    rw [List.nodup_append]
    refine ⟨List.nodup_range, hl, ?_⟩
    intro a ha b hb e
    have := List.mem_range.1 ha
    have := hk b hb
    omega
  have hLlt : ∀ i ∈ L, i < st.length := by
    intro i hi
    rcases List.mem_append.1 hi with hi | hi
    · have := List.mem_range.1 hi; omega
    · exact hlt i hi
  have hLB : ∀ i ∈ L, i < B.length := fun i hi => by rw [h.blen]; exact hLlt i hi
  let B' : List Loc := L.map fun i => B.getD i ⟨0, 0, 0⟩
  have hst : scrubSt k l st = L.map fun i => (st.getD i []).map (PV.scrub1 k l) := by
    unfold scrubSt
    have : st.take k = (List.range k).map fun i => st.getD i [] := by
      apply List.ext_getElem?
      intro i
      rw [List.getElem?_take, List.getElem?_map]
      split
      · rename_i hi
        rw [List.getElem?_range hi]
        simp only [Option.map_some, List.getD_eq_getElem?_getD]
        rw [List.getElem?_eq_getElem (by omega)]; rfl
      · rename_i hi
        rw [List.getElem?_eq_none (by simpa using hi)]; rfl
    rw [this, ← List.map_append, List.map_map]; rfl
  have hget : ∀ (j : Nat) m, B'[j]? = some m → ∃ i, L[j]? = some i ∧ B[i]? = some m := by
    intro j m hm
    simp only [B', List.getElem?_map] at hm
    obtain ⟨i, hi, rfl⟩ := Option.map_eq_some_iff.1 hm
    refine ⟨i, hi, ?_⟩
    have := hLB i (List.mem_of_getElem? hi)
    rw [List.getD_eq_getElem?_getD, List.getElem?_eq_getElem this]; rfl
  have hBB : ∀ b b', scrubId k l b = some b' → ∀ m, B[b]? = some m → B'[b']? = some m := by
    intro b b' hb m hm
    have hLb : L[b']? = some b := by
      unfold scrubId at hb
      split at hb
      · rename_i hlt'
        cases hb
        simp only [L]
        rw [List.getElem?_append_left (by simpa using hlt'), List.getElem?_range hlt']
      · split at hb
        · rename_i hge hmem
          cases hb
          simp only [L]
          rw [List.getElem?_append_right (by simp)]
          simp only [List.length_range, Nat.add_sub_cancel_left]
          have hmem' : b ∈ l := by simpa using hmem
          have := List.idxOf_lt_length_iff.2 hmem'
          rw [List.getElem?_eq_getElem this, List.getElem_idxOf]
        · cases hb
    simp only [B', List.getElem?_map, hLb, Option.map_some, List.getD_eq_getElem?_getD, hm]; rfl
  have hle : ∀ b, obE b (e.map (PV.scrub k l)) tm + obB b (scrubSt k l st) (B'.map (cellsAt w)) ≤ obE b e tm + obB b st (B.map (cellsAt w)) := by
    intro b
    have h1 := obE_scrub b k l e tm
    have h2 := sum_chosen b L st (B.map (cellsAt w)) hLn (by simp [h.blen]) hLlt
    have h3 : obB b (scrubSt k l st) (B'.map (cellsAt w)) ≤ (L.map fun i => obs b (st.getD i []) ((B.map (cellsAt w)).getD i [])).sum := by
      rw [hst]
      simp only [B', List.map_map]
      exact obB_scrub_le b k l L hLB
    omega
  refine ⟨B', ⟨h.rows, by rw [hst]; simp [B'], ?_, ?_, by simp [h.elen], ?_, ?_⟩, ?_, hle, by simp [B', L], ?_⟩
  · intro i j m n hm hn he
    obtain ⟨i0, hi1, hi2⟩ := hget i m hm
    obtain ⟨j0, hj1, hj2⟩ := hget j n hn
    have := h.bdis i0 j0 m n hi2 hj2 he
    subst this
    have hi := (List.getElem?_eq_some_iff.1 hi1).1
    exact (List.getElem?_inj hi hLn).1 (hi1.trans hj1.symm)
  · intro j m cs hm hcs
    obtain ⟨i, hi1, hi2⟩ := hget j m hm
    rw [hst, List.getElem?_map, hi1] at hcs
    simp only [Option.map_some, Option.some.injEq] at hcs
    subst hcs
    have hlt' := hLlt i (List.mem_of_getElem? hi1)
    have hsti : st[i]? = some (st.getD i []) := by rw [List.getD_eq_getElem?_getD, List.getElem?_eq_getElem hlt']; rfl
    have hb := h.boxes i m _ hi2 hsti
    refine ⟨hb.row, hb.heap, by simpa using hb.len, ?_, ?_⟩
    · intro j y u hy hu
      rw [List.getElem?_map] at hy
      obtain ⟨y0, hy0, rfl⟩ := Option.map_eq_some_iff.1 hy
      obtain ⟨k1, k2⟩ := hb.cells j y0 u hy0 hu
      exact ⟨k1, k2.scrub1 hBB⟩
    · intro j y u hy hu
      rw [List.getElem?_map] at hy
      obtain ⟨y0, hy0, rfl⟩ := Option.map_eq_some_iff.1 hy
      exact (hb.own j y0 u hy0 hu).scrub1
  · intro t y u hy hu
    rw [List.getElem?_map] at hy
    obtain ⟨y0, hy0, rfl⟩ := Option.map_eq_some_iff.1 hy
    obtain ⟨k1, k2⟩ := h.rel t y0 u hy0 hu
    exact ⟨k1.scrub hBB, k2.scrub⟩
  · intro b
    exact Nat.le_trans (hle b) (h.uniq b)
  · intro m hm
    obtain ⟨j, hj⟩ := List.getElem?_of_mem hm
    obtain ⟨i, _, hi⟩ := hget j m hj
    exact List.mem_of_getElem? hi
  · apply List.ext_getElem?
    intro i
    rw [List.getElem?_take, List.getElem?_take]
    split
    · rename_i hi
      have hiB : i < B.length := by rw [h.blen]; omega
      rw [hBB i i (by simp [scrubId, hi]) B[i] (List.getElem?_eq_getElem hiB), List.getElem?_eq_getElem hiB]
    · rfl
end

end Go.Sim
/- Operations: what the pure interpreter answers, the machine does. First part: tools, moves, arithmetic. -/
namespace Go.Sim
open PV

section
variable {P : Program} {G : Gh} {B : List Loc} {e : Env} {st : St} {tm : List Value} {w : World} {x : PV} {v : Value}

theorem Prog.weaken {G' : Gh} {w' : World} {M M' : Nat → Prop} (h : Prog G w M G' w') (hM : ∀ b, M b → M' b) : Prog G w M' G' w' :=
  ⟨h.size, fun b hb hn => h.heap b hb fun hm => hn (hM b hm), fun b pc hp => let ⟨m, h1, h2⟩ := h.rows b pc hp; ⟨m, h1, fun hn => h2 fun hm => hn (hM b hm)⟩, h.none, h.os, h.tape, h.output⟩

/-- The world is as it was. -/
theorem Step.same {e' : Env} {st' : St} {tm' : List Value} (hs : Sim G B e' st' tm' w)
    (hc : ∀ b, obE b e' tm' + obB b st' (B.map (cellsAt w)) ≤ obE b e tm + obB b st (B.map (cellsAt w))) : Step G B e st tm w G B e' st' tm' w :=
  ⟨hs, Prog.refl _ _ _, fun b hb => .inl (.inl (Nat.lt_of_lt_of_le hb (hc b))), fun _ hl => .inr hl, fun _ _ => Out.same rfl⟩

/-- What was there is as it was. -/
theorem Step.fresh {G' : Gh} {B' : List Loc} {e' : Env} {st' : St} {tm' : List Value} {w' : World} (h : Sim G B e st tm w) (hs : Sim G' B' e' st' tm' w') (hp : Prog G w (fun _ => False) G' w')
    (hc : ∀ b, b < w.heap.size → obE b e' tm' + obB b st' (B'.map (cellsAt w')) ≤ obE b e tm + obB b st (B.map (cellsAt w)))
    (hb : ∀ l ∈ B', w.heap.size ≤ l.blk ∨ l ∈ B) : Step G B e st tm w G' B' e' st' tm' w' :=
  ⟨hs, hp.weaken (fun _ h => h.elim), fun b hbb => by
    by_cases hlt : b < w.heap.size
    · exact .inl (.inl (Nat.lt_of_lt_of_le hbb (hc b hlt)))
    · exact .inr (by omega), hb, fun l hl => Out.same (hp.heap _ (h.boxLt hl).1 (by simp))⟩

/-- The operation does so, whatever is to come. -/
def Does (P : Program) (o : Oper) (a : Act) (w : World) (R : Value → World → Prop) : Prop :=
  ∀ (K : Act → World → Prop) (Q : Exit → Act → World → Prop), (∀ v w', R v w' → K (a.put o.dst v) w') → o.wp P a w K Q

theorem Does.value {o : Oper} {a : Act} {R : Value → World → Prop} {cv : Value} {w' : World} (hr : (execOp a.eval o).run P w = .ok (.value cv) w') (h : R cv w') : Does P o a w R := fun K Q hK => by
  unfold Oper.wp; rw [hr]; exact hK cv w' h
theorem Does.skip {o : Oper} {a : Act} {R : Value → World → Prop} {w' : World} (hr : (execOp a.eval o).run P w = .ok .skip w') (h : R undef w') : Does P o a w R := fun K Q hK => by
  unfold Oper.wp; rw [hr]; exact hK undef w' h

/-- What an operation must do. -/
abbrev Goal (P : Program) (h : Hint) (G : Gh) (B : List Loc) (e : Env) (st : St) (a : Act) (w : World) (o : Oper) (v : PV) (st' : St) : Prop :=
  Does P o a w fun cv w' => ∃ G' B', Step G B e st a.tmps.toList w G' B' (v :: shed e (sheds h o)) st' (cv :: a.tmps.toList) w' ∧ Ble B B'

theorem ofVal1_rel {x : PV} {v : Value} (h : ofVal1 v = some x) : CRel G B x v ∧ (∀ b, ob b x v = 0) ∧ O1 G w x v ∧ x.cells = [x] ∧ v.cells = #[v] ∧ (∀ ts, x ≠ .tup ts) ∧ (∀ cs, x ≠ .agg cs) ∧ one v = true ∧ x.store1 = true ∧ (dem1 x).plain1 = true := by
  unfold ofVal1 at h
  split at h <;> simp only [Option.some.injEq, reduceCtorEq] at h <;> (try subst h) <;>
    simp [CRel, ob, O1, cells, Value.cells, conVal, maxLen, store1, plain1, dem1, Value.oneCell']
  exact ⟨none, 0, ⟨rfl, rfl⟩, by omega, rfl⟩
theorem ofVals_rel : ∀ {vs : List Value} {cs : List PV}, ofVals vs = some cs → cs.length = vs.length ∧ (∀ (i : Nat) x v, cs[i]? = some x → vs[i]? = some v → ofVal1 v = some x)
  | [], cs, h => by simp [ofVals] at h; subst h; simp
  | v :: vs, cs, h => by
    simp only [ofVals] at h
    obtain ⟨x, hx, h⟩ := Option.bind_eq_some_iff.1 h
    obtain ⟨xs, hxs, rfl⟩ := Option.map_eq_some_iff.1 h
    obtain ⟨h1, h2⟩ := ofVals_rel hxs
    refine ⟨by simp [h1], fun i y u hy hu => ?_⟩
    cases i with
    | zero => simp at hy hu; subst hy; subst hu; exact hx
    | succ i => exact h2 i y u (by simpa using hy) (by simpa using hu)
theorem obs_zero {b : Nat} {xs : List PV} {vs : List Value} (h : ∀ (i : Nat) x v, xs[i]? = some x → vs[i]? = some v → ob b x v = 0) : obs b xs vs = 0 := by
  apply Nat.eq_zero_of_not_pos
  intro hp
  obtain ⟨i, x, v, h1, h2, h3⟩ := obs_ex hp
  have := h i x v h1 h2; omega
theorem ofVal_rel {x : PV} {v : Value} (h : ofVal v = some x) : VRel G B x v ∧ (∀ b, ob3 b x v = 0) ∧ O3 G w x v ∧ (∀ ts, x ≠ .tup ts) := by
  unfold ofVal at h
  split at h
  · rename_i cs
    obtain ⟨xs, hxs, rfl⟩ := Option.map_eq_some_iff.1 h
    obtain ⟨h1, h2⟩ := ofVals_rel hxs
    refine ⟨⟨cs, rfl, by simpa using h1, fun i x y hx hy => (ofVal1_rel (w := w) (h2 i x y hx (by simpa using hy))).1⟩, fun b => ?_, ?_, by simp⟩
    · exact obs_zero fun i x v hx hv => (ofVal1_rel (G := G) (B := B) (w := w) (h2 i x v hx (by simpa [Value.cells] using hv))).2.1 b
    · intro i x v hx hv
      exact (ofVal1_rel (G := G) (B := B) (w := w) (h2 i x v hx (by simpa [Value.cells] using hv))).2.2.1
  · obtain ⟨h1, h2, h3, h4, h5, h6, h7, _⟩ := ofVal1_rel (G := G) (B := B) (w := w) h
    refine ⟨?_, fun b => ?_, ?_, h6⟩
    · cases x <;> first | exact h1 | exact (h6 _ rfl).elim | exact (h7 _ rfl).elim
    · unfold ob3
      split
      · exact (h6 _ rfl).elim
      · simp [h4, h5, obs, h2]
    · unfold O3
      split
      · exact (h6 _ rfl).elim
      · rw [h4, h5]
        intro i y u hy hu
        cases i <;> simp at hy hu
        subst hy; subst hu; exact h3

theorem eval_tmp {a : Act} (hs : Sim G B e st a.tmps.toList w) {t : Nat} {x : PV} (hx : e[t]? = some x) : a.tmps.toList[t]? = some (a.eval (.tmp t)) := by
  have h1 : t < e.length := (List.getElem?_eq_some_iff.1 hx).1
  have h0 : e.length = a.tmps.toList.length := hs.elen
  have h3 : a.tmps.toList.length = a.tmps.size := Array.length_toList
  have h2 : t < a.tmps.size := by omega
  simp [Act.eval, h2]
theorem eval_rel {a : Act} (hs : Sim G B e st a.tmps.toList w) {o : Operand} {x : PV} (hx : peval e o = some x) : VRel G B x (a.eval o) ∧ O3 G w x (a.eval o) := by
  cases o with
  | tmp t => exact hs.rel t x _ hx (eval_tmp hs hx)
  | const v => exact ⟨(ofVal_rel (G := G) (B := B) (w := w) hx).1, (ofVal_rel (G := G) (B := B) (w := w) hx).2.2.1⟩
  | func f => simp [peval] at hx; subst hx; exact ⟨rfl, fun i y u hy hu => by cases i <;> simp [cells] at hy; subst hy; trivial⟩
  | global g => simp [peval] at hx

/-- A value is taken: with its claims, if it lies in a temporary. -/
theorem Sim.takeOp {a : Act} (hs : Sim G B e st a.tmps.toList w) {o : Operand} {x : PV} (hx : peval e o = some x) :
    Sim G B (x :: shed e (tmpOf o)) st (a.eval o :: a.tmps.toList) w ∧
      ∀ b, ob3 b x (a.eval o) + obE b (shed e (tmpOf o)) a.tmps.toList = obE b e a.tmps.toList := by
  cases o with
  | tmp t =>
    have hv := eval_tmp hs hx
    have := hs.take hx hv
    have hx' : e[t]? = some x := hx
    simp only [tmpOf, shed, hx']
    refine ⟨this, fun b => ?_⟩
    have h2 := obE_set_eq b x.dem e a.tmps.toList t x _ hx' hv
    rw [ob3_dem] at h2; omega
  | const v =>
    obtain ⟨h1, h2, h3, _⟩ := ofVal_rel (G := G) (B := B) (w := w) hx
    simp only [tmpOf, shed]
    refine ⟨hs.push h1 h3 fun b => ?_, fun b => ?_⟩
    · have : ob3 b x (a.eval (.const v)) = 0 := h2 b
      have := hs.uniq b; omega
    · have : ob3 b x (a.eval (.const v)) = 0 := h2 b
      omega
  | func f =>
    simp [peval] at hx; subst hx
    simp only [tmpOf, shed]
    exact ⟨hs.pushFree rfl rfl, fun b => by simp [ob3, cells, Act.eval, Value.cells, obs, ob]⟩
  | global g => simp [peval] at hx

/-- The world as it was; a value without claims. -/
theorem Step.pure (hs : Sim G B e st tm w) (hv : VRel G B x v) (hx : x.dem = x) : Step G B e st tm w G B (x :: e) st (v :: tm) w :=
  Step.same (hs.pushFree hv hx) fun b => by
    have := ob3_dem b x v
    rw [hx] at this
    simp only [obE]; omega
theorem Step.pureDem (hs : Sim G B e st tm w) (hv : VRel G B x v) : Step G B e st tm w G B (x.dem :: e) st (v :: tm) w :=
  Step.same (hs.pushDem hv) fun b => by simp only [obE, ob3_dem]; omega

theorem does_assign {h : Hint} {fresh : Bool} {C : Oracle} {a : Act} (hs : Sim G B e st a.tmps.toList w) {o : Oper} {st' : St} {y : Operand} (ho : o.op = .assign y) (hv : osem P C h fresh o (peval e) st = some (x, st')) : Goal P h G B e st a w o x st' := by
  simp only [osem, ho] at hv
  obtain ⟨z, hz, hq⟩ := Option.map_eq_some_iff.1 hv
  simp only [Prod.mk.injEq] at hq; obtain ⟨rfl, rfl⟩ := hq
  obtain ⟨h1, h2⟩ := hs.takeOp hz
  refine Does.value (cv := a.eval y) (w' := w) (by simp [execOp, ho]) ⟨G, B, ?_, Ble.refl _⟩
  simp only [sheds, ho]
  exact Step.same h1 fun b => by have := h2 b; simp only [obE]; omega

theorem does_move {h : Hint} {fresh : Bool} {C : Oracle} {a : Act} (hs : Sim G B e st a.tmps.toList w) {o : Oper} {st' : St} {y : Operand} (ho : o.op = .move y) (hv : osem P C h fresh o (peval e) st = some (x, st')) : Goal P h G B e st a w o x st' := by
  simp only [osem, ho] at hv
  obtain ⟨z, hz, hq⟩ := Option.map_eq_some_iff.1 hv
  simp only [Prod.mk.injEq] at hq; obtain ⟨rfl, rfl⟩ := hq
  refine Does.value (cv := a.eval y) (w' := w) (by simp [execOp, ho]) ⟨G, B, ?_, Ble.refl _⟩
  simp only [sheds, ho]
  cases hd : takes h o
  · simp only [Bool.false_eq_true, if_false, shed]
    exact Step.pureDem hs (eval_rel hs hz).1
  · simp only [if_true]
    obtain ⟨h1, h2⟩ := hs.takeOp hz
    exact Step.same h1 fun b => by have := h2 b; simp only [obE]; omega

theorem does_pick {h : Hint} {fresh : Bool} {C : Oracle} {a : Act} (hs : Sim G B e st a.tmps.toList w) {o : Oper} {st' : St} {c p q : Operand} (ho : o.op = .pick c p q) (hv : osem P C h fresh o (peval e) st = some (x, st')) : Goal P h G B e st a w o x st' := by
  simp only [osem, ho] at hv
  split at hv
  · rename_i t hc
    obtain ⟨z, hz, hq⟩ := Option.map_eq_some_iff.1 hv
    simp only [Prod.mk.injEq] at hq; obtain ⟨rfl, rfl⟩ := hq
    have hcv : a.eval c = .bool t := (eval_rel hs hc).1
    refine Does.value (cv := a.eval (if t then p else q)) (w' := w) ?_ ⟨G, B, ?_, Ble.refl _⟩
    · cases t <;> simp [execOp, ho, hcv, asBool]
    · simp only [sheds, ho, shed]
      exact Step.pureDem hs (eval_rel hs hz).1
  · cases hv

theorem pint_dem {op : BinOp} {k : IntKind} {m n : Int} {y : PV} (h : pint op k m n = some y) : y.dem = y := by
  unfold pint at h
  split at h <;> first | (cases h; rfl) | (split at h <;> cases h; rfl) | cases h

theorem run_pint {op : BinOp} {k : IntKind} {m n : Int} {y : PV} (h : pint op k m n = some y) (t : TypeId) :
    ∃ cv, (binOp op t (.int k m) (.int k n)).run P w = .ok cv w ∧ CRel G B y cv := by
  cases op <;> simp only [pint, Option.some.injEq, reduceCtorEq] at h
  all_goals first
    | (subst h; refine ⟨_, ?_, rfl⟩; simp [binOp, Op.intArith, Op.intBits, Op.intCmp]; done)
    | (split at h
       · cases h
       · cases h
         rename_i hn
         refine ⟨_, ?_, rfl⟩
         simp [binOp, Op.intDiv, hn]; done)
end
end Go.Sim
/- Operations, second part: arithmetic, comparison, conversion, addresses. -/
namespace Go.Sim
open PV

section
variable {P : Program} {G : Gh} {B : List Loc} {e : Env} {st : St} {tm : List Value} {w : World} {x y z : PV} {v u : Value}

theorem CRel.toVRel (h : CRel G B x v) : VRel G B x v := by
  cases x <;> first | exact h | exact h.elim

/-- A result without claims, of one cell. -/
def Flat (z : PV) : Prop := z.dem = z

theorem pshift_ok {op : BinOp} {k j : IntKind} {m n : Int} (h : pshift op k m n = some z) (t : TypeId) :
    ∃ cv, (binOp op t (.int k m) (.int j n)).run P w = .ok cv w ∧ CRel G B z cv ∧ z.dem = z := by
  unfold pshift at h
  split at h
  · cases h
  · rename_i hn
    split at h <;> cases h
    · refine ⟨_, ?_, rfl, rfl⟩; simp [binOp, Op.shift, hn]
    · refine ⟨_, ?_, rfl, rfl⟩; simp [binOp, Op.shift, hn]

theorem mk_append (a b : List UInt8) : (⟨a.toArray⟩ : ByteArray) ++ ⟨b.toArray⟩ = ⟨(a ++ b).toArray⟩ := by
  apply ByteArray.ext
  rw [ByteArray.data_append]
  simp

theorem pstr_ok {op : BinOp} {a b : List UInt8} (h : pstr op a b = some z) (t : TypeId) :
    ∃ cv, (binOp op t (.string ⟨a.toArray⟩) (.string ⟨b.toArray⟩)).run P w = .ok cv w ∧ CRel G B z cv ∧ z.dem = z := by
  unfold pstr at h
  split at h <;> try (cases h; done)
  · split at h
    · cases h
      rename_i hl
      refine ⟨.string ⟨(a ++ b).toArray⟩, ?_, rfl, rfl⟩
      have hs : ∀ l : List UInt8, (⟨l.toArray⟩ : ByteArray).size = l.length := fun l => by simp [ByteArray.size]
      have : ¬ (((⟨a.toArray⟩ : ByteArray).size + (⟨b.toArray⟩ : ByteArray).size : Nat) : Int) > IntKind.i64.max := by
        rw [hs, hs]
        have : IntKind.i64.max = 9223372036854775807 := by decide
        rw [this]; omega
      simp only [binOp, Op.stringOp, if_neg this, Sem.run_pure, mk_append]
    · cases h
  all_goals
    cases h
    refine ⟨_, ?_, rfl, rfl⟩
    simp [binOp, Op.stringOp]

/-- Cells, one by one. -/
def AllC (G : Gh) (B : List Loc) (cs : List PV) (vs : List Value) : Prop := cs.length = vs.length ∧ ∀ (i : Nat) x y, cs[i]? = some x → vs[i]? = some y → CRel G B x y

theorem run_isAgg {t : TypeId} {b : Bool} (h : isAggB P t = some b) : (isAgg t).run P w = .ok b w := by
  unfold isAggB at h
  unfold isAgg
  split at h
  · rename_i hu; cases h; simp [run_underlying hu]
  · rename_i hu; cases h; simp [run_underlying hu]
  · rename_i d h1 h2 hu; cases h
    rw [Sem.run_bind, run_underlying hu]
    simp only [Result.andThen_ok]
    rfl
  · cases h

/-- A part of an aggregate. -/
theorem takeVar_part {t : TypeId} {cs : List PV} {vs : Array Value} {o : Nat} {a : PV} (hc : AllC G B cs vs.toList) (h : takeVar P t cs o = some a) :
    ∃ av, (part t vs o).run P w = .ok av w ∧ VRel2 G B a av := by
  unfold takeVar at h
  split at h
  · rename_i i hag hi
    split at h
    · rename_i hle
      cases h
      have hlen : vs.size = cs.length := by have := hc.1; simp at this; omega
      refine ⟨.agg (vs.extract o (o + i.size)), by simp [part, run_isAgg hag, sizeOf, typeInfo, hi], _, rfl, ?_, ?_⟩
      · simp; omega
      · intro j x y hx hy
        rw [List.getElem?_take] at hx
        split at hx
        · rename_i hj
          rw [List.getElem?_drop] at hx
          rw [Array.getElem?_extract, if_pos (by omega)] at hy
          exact hc.2 _ x y hx (by simpa using hy)
        · cases hx
    · cases h
  · rename_i i hag hi
    have ho := (List.getElem?_eq_some_iff.1 h).1
    have hlen : vs.size = cs.length := by have := hc.1; simp at this; omega
    obtain ⟨av, hav⟩ : ∃ av, vs[o]? = some av := ⟨_, Array.getElem?_eq_getElem (by omega)⟩
    refine ⟨av, by simp [part, run_isAgg hag, hav], ?_⟩
    have := hc.2 o a av h (by simpa using hav)
    cases a <;> first | exact this | exact this.elim
  · cases h

theorem peqFields_ok {d : Nat} (ih : ∀ {t : TypeId} {x y : PV} {vx vy : Value} {b : Bool}, VRel2 G B x vx → VRel2 G B y vy → peqIn P d t x y = some b → (Op.equalIn d t vx vy).run P w = .ok b w)
    {xs ys : List PV} {vs us : Array Value} (hx : AllC G B xs vs.toList) (hy : AllC G B ys us.toList) : ∀ (fs : List Field) (b : Bool), peqFields P (peqIn P d) xs ys fs = some b → (Op.eqFields d vs us fs).run P w = .ok b w
  | [], b, h => by simp [peqFields] at h; subst h; simp [Op.eqFields]
  | f :: fs, b, h => by
    simp only [peqFields] at h
    split at h
    · cases h
    · rename_i hn
      obtain ⟨p, hp, h⟩ := Option.bind_eq_some_iff.1 h
      obtain ⟨q, hq, h⟩ := Option.bind_eq_some_iff.1 h
      obtain ⟨r, hr, h⟩ := Option.bind_eq_some_iff.1 h
      obtain ⟨pv, hpv, hpr⟩ := takeVar_part (w := w) hx hp
      obtain ⟨qv, hqv, hqr⟩ := takeVar_part (w := w) hy hq
      have he := ih hpr hqr hr
      rw [Op.eqFields]
      simp only [if_pos hn, Sem.run_bind, hpv, hqv, he, Result.andThen_ok]
      cases r
      · simp at h; subst h; simp
      · simp only [if_true] at h
        simpa using peqFields_ok ih hx hy fs b h

theorem peqIn_ok : ∀ (d : Nat) {t : TypeId} {x y : PV} {vx vy : Value} {b : Bool}, VRel2 G B x vx → VRel2 G B y vy → peqIn P d t x y = some b → (Op.equalIn d t vx vy).run P w = .ok b w
  | 0, t, x, y, vx, vy, b, _, _, h => by simp [peqIn] at h
  | d + 1, t, x, y, vx, vy, b, hx, hy, h => by
    simp only [peqIn] at h
    split at h
    · rename_i hu
      split at h <;> cases h
      cases hx; cases hy
      simp [Op.equalIn, run_underlying hu]
    · rename_i hu
      split at h
      · split at h <;> cases h
        rename_i hk
        cases hx; cases hy
        simp [Op.equalIn, run_underlying hu, hk]
      · cases h
    · rename_i hu
      split at h <;> cases h
      cases hx; cases hy
      simp [Op.equalIn, run_underlying hu]
      rw [beq_toListBytes]; simp
    · rename_i hu
      split at h <;> cases h
      · cases hx; cases hy; simp [Op.equalIn, run_underlying hu]
      · cases hx; obtain ⟨l, _, rfl⟩ := hy; simp [Op.equalIn, run_underlying hu]
      · cases hy; obtain ⟨l, _, rfl⟩ := hx; simp [Op.equalIn, run_underlying hu]
      · cases hx; obtain ⟨_, _, _, _, _, rfl⟩ := hy; simp [Op.equalIn, run_underlying hu]
      · cases hy; obtain ⟨_, _, _, _, _, rfl⟩ := hx; simp [Op.equalIn, run_underlying hu]
    · rename_i hu
      split at h <;> cases h
      · obtain ⟨a, cap, rfl, _, _, _, h5⟩ := hx
        obtain ⟨a', cap', rfl, _, _, _, h5'⟩ := hy
        have ha' : a' = none := by
          cases a' with
          | none => rfl
          | some ad => simp at h5'
        subst ha'
        cases a with
        | none => simp at h5; simp [Op.equalIn, run_underlying hu, h5.1]
        | some ad => simp at h5; simp [Op.equalIn, run_underlying hu, h5.1]
      · obtain ⟨l, cap, _, rfl, _⟩ := hx
        obtain ⟨a', cap', rfl, _, _, _, h5'⟩ := hy
        have ha' : a' = none := by
          cases a' with
          | none => rfl
          | some ad => simp at h5'
        subst ha'
        simp [Op.equalIn, run_underlying hu]
    · rename_i fs hu
      split at h
      · split at h
        · cases h
        · rename_i hp
          obtain ⟨vs, rfl, h1, h2⟩ := hx
          obtain ⟨us, rfl, k1, k2⟩ := hy
          have hf : P.fieldsOf t = fs := by simp [Program.fieldsOf, hu]
          rw [run_equalIn_struct (P := P) w d t vs us (by rw [hf]; exact hu) (by simpa using hp), hf]
          exact peqFields_ok (fun hx hy hb => peqIn_ok d hx hy hb) ⟨by simpa using h1, fun i x y hx hy => h2 i x y hx (by simpa using hy)⟩ ⟨by simpa using k1, fun i x y hx hy => k2 i x y hx (by simpa using hy)⟩ _ _ h
      · cases h
    · cases h

theorem eql_equal {t : TypeId} {vx vy : Value} (h1 : ∀ k a k' b, ¬ (vx = .int k a ∧ vy = .int k' b)) (h2 : ∀ a b, ¬ (vx = .string a ∧ vy = .string b)) (h3 : ∀ k a, vx ≠ .float k a) (h4 : ∀ k a b, vx ≠ .complex k a b) :
    binOp .eql t vx vy = (do pure (.bool (← Op.equal t vx vy))) ∧ binOp .neq t vx vy = (do pure (.bool (!(← Op.equal t vx vy)))) := by
  cases vx <;> first | exact (h3 _ _ rfl).elim | exact (h4 _ _ _ rfl).elim | (cases vy <;> first | exact ⟨rfl, rfl⟩ | exact (h1 _ _ _ _ ⟨rfl, rfl⟩).elim | exact (h2 _ _ ⟨rfl, rfl⟩).elim)

/-- What values are compared so. -/
theorem peqIn_shape {d : Nat} {t : TypeId} {b : Bool} (h : peqIn P d t x y = some b) (hn : ∀ j m k n, ¬ (x = .int j m ∧ y = .int k n)) (hn' : ∀ m n, ¬ (x = .str m ∧ y = .str n)) {vx vy : Value} (hx : VRel2 G B x vx) (hy : VRel2 G B y vy) :
    (∀ k a k' b, ¬ (vx = .int k a ∧ vy = .int k' b)) ∧ (∀ a b, ¬ (vx = .string a ∧ vy = .string b)) ∧ (∀ k a, vx ≠ .float k a) ∧ (∀ k a b, vx ≠ .complex k a b) ∧ (vx ≠ .nilIface) ∧ ((∀ cs, x ≠ .agg cs) → ∀ cs, vx ≠ .agg cs) := by
  cases d with
  | zero => simp [peqIn] at h
  | succ d =>
    simp only [peqIn] at h
    split at h
    · split at h <;> cases h
      cases hx; simp
    · split at h
      · exact (hn _ _ _ _ ⟨rfl, rfl⟩).elim
      · cases h
    · split at h
      · exact (hn' _ _ ⟨rfl, rfl⟩).elim
      · cases h
    · split at h <;> cases h
      · cases hx; simp
      · cases hx; simp
      · obtain ⟨_, _, rfl⟩ := hx; simp
      · cases hx; simp
      · obtain ⟨_, _, _, _, _, rfl⟩ := hx; simp
    · split at h <;> cases h
      · obtain ⟨_, _, rfl, _⟩ := hx; simp
      · obtain ⟨_, _, _, rfl, _⟩ := hx; simp
    · split at h
      · obtain ⟨vs, rfl, _⟩ := hx; simp
      · cases h
    · cases h

theorem run_eqGuard {op : BinOp} {t : TypeId} {vx vy : Value} (ox oy : Operand) (h1 : vx ≠ .nilIface) (h2 : (∃ cs, vx = .agg cs) → P.eqGuardType P.depth t = false) : (eqGuard op t ox oy vx vy).run P w = .ok () w := by
  cases op <;> first
    | rfl
    | (simp only [eqGuard, Bool.not_true, Bool.false_eq_true, if_false]
       split
       · exact (h1 rfl).elim
       · have := h2 ⟨_, rfl⟩
         simp [this]
       · rfl)

theorem pbin_ok {op : BinOp} {t : TypeId} {vx vy : Value} (hx : VRel G B x vx) (hy : VRel G B y vy) (h : pbin P op t x y = some z) (ox oy : Operand) :
    ∃ cv, (do eqGuard op t ox oy vx vy; binOp op t vx vy : Sem Value).run P w = .ok cv w ∧ CRel G B z cv ∧ z.dem = z := by
  unfold pbin at h
  split at h
  · rename_i j m k n
    cases hx; cases hy
    rw [Sem.run_bind, run_eqGuard _ _ (by simp) (by simp)]
    simp only [Result.andThen_ok]
    split at h
    · exact pshift_ok h t
    · exact pshift_ok h t
    · split at h
      · rename_i hjk; subst hjk
        obtain ⟨cv, h1, h2⟩ := run_pint (P := P) (w := w) (G := G) (B := B) h t
        exact ⟨cv, h1, h2, pint_dem h⟩
      · cases h
  · rename_i m n
    cases hx; cases hy
    rw [Sem.run_bind, run_eqGuard _ _ (by simp) (by simp)]
    simp only [Result.andThen_ok]
    exact pstr_ok h t
  · rename_i hn hn'
    have hx2 : ∀ {b : Bool}, peqIn P 10000 t x y = some b → VRel2 G B x vx ∧ VRel2 G B y vy := by
      intro b hb
      constructor
      · cases x <;> first | exact hx | skip
        simp only [peqIn] at hb
        split at hb <;> simp at hb
      · cases y <;> first | exact hy | skip
        simp only [peqIn] at hb
        split at hb <;> first | cases hb | (split at hb <;> simp_all)
    have key : ∀ {b : Bool}, peqIn P 10000 t x y = some b → eqFree P t x = true →
        (eqGuard op t ox oy vx vy).run P w = .ok () w ∧ (Op.equal t vx vy).run P w = .ok b w ∧ binOp .eql t vx vy = (do pure (.bool (← Op.equal t vx vy))) ∧ binOp .neq t vx vy = (do pure (.bool (!(← Op.equal t vx vy)))) := by
      intro b hb hf
      obtain ⟨r1, r2⟩ := hx2 hb
      obtain ⟨s1, s2, s3, s4, s5, s6⟩ := peqIn_shape hb (fun j m k n hh => hn j m k n hh.1 hh.2) (fun m n hh => hn' m n hh.1 hh.2) r1 r2
      refine ⟨run_eqGuard _ _ s5 ?_, peqIn_ok 10000 r1 r2 hb, eql_equal s1 s2 s3 s4⟩
      rintro ⟨cs, rfl⟩
      by_cases hagg : ∃ cs, x = .agg cs
      · obtain ⟨cs, rfl⟩ := hagg; simpa [eqFree] using hf
      · exact (s6 (fun cs e => hagg ⟨cs, e⟩) cs rfl).elim
    split at h
    · split at h
      · rename_i hf
        obtain ⟨b, hb, rfl⟩ := Option.map_eq_some_iff.1 h
        obtain ⟨k1, k2, k3, k4⟩ := key hb hf
        refine ⟨_, ?_, rfl, rfl⟩
        rw [k3]; simp [k1, k2]
      · cases h
    · split at h
      · rename_i hf
        obtain ⟨b, hb, rfl⟩ := Option.map_eq_some_iff.1 h
        obtain ⟨k1, k2, k3, k4⟩ := key hb hf
        refine ⟨_, ?_, rfl, rfl⟩
        rw [k4]; simp [k1, k2]
      · cases h
    · cases h

theorem does_binOp {h : Hint} {fresh : Bool} {C : Oracle} {a : Act} (hs : Sim G B e st a.tmps.toList w) {o : Oper} {st' : St} {op : BinOp} {t t' : TypeId} {p q : Operand} (ho : o.op = .binOp op t p q t') (hv : osem P C h fresh o (peval e) st = some (x, st')) : Goal P h G B e st a w o x st' := by
  simp only [osem, ho] at hv
  obtain ⟨p', hp, hv⟩ := Option.bind_eq_some_iff.1 hv
  obtain ⟨q', hq, hv⟩ := Option.bind_eq_some_iff.1 hv
  obtain ⟨z, hz, hv⟩ := Option.map_eq_some_iff.1 hv
  simp only [Prod.mk.injEq] at hv; obtain ⟨rfl, rfl⟩ := hv
  obtain ⟨cv, h1, h2, h3⟩ := pbin_ok (P := P) (w := w) (eval_rel hs hp).1 (eval_rel hs hq).1 hz p q
  refine Does.value (cv := cv) (w' := w) ?_ ⟨G, B, ?_, Ble.refl _⟩
  · simp only [execOp, ho, Sem.run_bind] at h1 ⊢
    rw [h1]; rfl
  · simp only [sheds, ho, shed]
    exact Step.pure hs h2.toVRel h3
end
end Go.Sim
/- Operations, third part: addresses, parts, loads and stores. -/
namespace Go.Sim
open PV

section
variable {P : Program} {G : Gh} {B : List Loc} {e : Env} {st : St} {tm : List Value} {w : World} {x y z : PV} {v u : Value}
variable {h : Hint} {fresh : Bool} {C : Oracle} {a : Act} {o : Oper} {st' : St}

theorem add_flat (b o n : Nat) : (⟨b, o, none⟩ : Addr).add n = ⟨b, o + n, none⟩ := by unfold Addr.add; split <;> simp_all

theorem does_unOp (hs : Sim G B e st a.tmps.toList w) {op : UnOp} {t : TypeId} {p : Operand} (ho : o.op = .unOp op t p) (hv : osem P C h fresh o (peval e) st = some (x, st')) : Goal P h G B e st a w o x st' := by
  simp only [osem, ho] at hv
  obtain ⟨p', hp, hv⟩ := Option.bind_eq_some_iff.1 hv
  obtain ⟨z, hz, hv⟩ := Option.map_eq_some_iff.1 hv
  simp only [Prod.mk.injEq] at hv; obtain ⟨rfl, rfl⟩ := hv
  have hr := (eval_rel hs hp).1
  have key : ∃ cv, (Op.unary op (a.eval p)).run P w = .ok cv w ∧ CRel G B z cv ∧ z.dem = z := by
    unfold pun at hz
    split at hz <;> cases hz
    · have hr' : a.eval p = _ := hr
      rw [hr']; refine ⟨_, ?_, rfl, rfl⟩; simp [Op.unary, Op.intArith]
    · have hr' : a.eval p = _ := hr
      rw [hr']; refine ⟨_, ?_, rfl, rfl⟩; simp [Op.unary, Op.intBits]
    · have hr' : a.eval p = _ := hr
      rw [hr']; refine ⟨_, ?_, rfl, rfl⟩; simp [Op.unary]
  obtain ⟨cv, h1, h2, h3⟩ := key
  refine Does.value (cv := cv) (w' := w) ?_ ⟨G, B, ?_, Ble.refl _⟩
  · simp only [execOp, ho, Sem.run_bind, h1]; rfl
  · simp only [sheds, ho, shed]
    exact Step.pure hs h2.toVRel h3

theorem does_nilCheck (hs : Sim G B e st a.tmps.toList w) {p : Operand} (ho : o.op = .nilCheck p) (hv : osem P C h fresh o (peval e) st = some (x, st')) : Goal P h G B e st a w o x st' := by
  simp only [osem, ho] at hv
  split at hv <;> cases hv
  · rename_i b k hp
    have hr := (eval_rel hs hp).1
    have hr0 := hr
    obtain ⟨l, h1, h2⟩ := hr
    refine Does.value (cv := a.eval p) (w' := w) (by simp [execOp, ho, h2]) ⟨G, B, ?_, Ble.refl _⟩
    simp only [sheds, ho, shed]
    exact Step.pure hs hr0 rfl
  · rename_i cs k hp
    have hr := (eval_rel hs hp).1
    have hr0 := hr
    obtain ⟨_, _, _, _, _, h2⟩ := hr
    refine Does.value (cv := a.eval p) (w' := w) (by simp [execOp, ho, h2]) ⟨G, B, ?_, Ble.refl _⟩
    simp only [sheds, ho, shed]
    exact Step.pure hs hr0 rfl
  · rename_i f hp
    have hr := (eval_rel hs hp).1
    have hr0 := hr
    have h2 : a.eval p = _ := hr
    refine Does.value (cv := a.eval p) (w' := w) (by simp [execOp, ho, h2]) ⟨G, B, ?_, Ble.refl _⟩
    simp only [sheds, ho, shed]
    exact Step.pure hs hr0 rfl

theorem does_fieldAddr (hs : Sim G B e st a.tmps.toList w) {t : TypeId} {p : Operand} {f : Nat} (ho : o.op = .fieldAddr t p f) (hv : osem P C h fresh o (peval e) st = some (x, st')) : Goal P h G B e st a w o x st' := by
  simp only [osem, ho] at hv
  obtain ⟨p', hp, hv⟩ := Option.bind_eq_some_iff.1 hv
  obtain ⟨z, hz, hv⟩ := Option.map_eq_some_iff.1 hv
  simp only [Prod.mk.injEq] at hv; obtain ⟨rfl, rfl⟩ := hv
  have hr := (eval_rel hs hp).1
  unfold pfieldAt at hz
  split at hz
  · rename_i fs hu
    obtain ⟨g, hg, hz⟩ := Option.bind_eq_some_iff.1 hz
    obtain ⟨j, hj, hz⟩ := Option.bind_eq_some_iff.1 hz
    split at hz
    · cases hz
    · rename_i hsz
      split at hz <;> cases hz
      · rename_i _ bx off _ _
        obtain ⟨l, h1, h2⟩ := hr
        refine Does.value (cv := .pointer (some ⟨l.blk, l.off + (off + g.offset), none⟩)) (w' := w) ?_ ⟨G, B, ?_, Ble.refl _⟩
        · simp [execOp, ho, h2, Instr.fieldAt, run_underlying hu, hg, Instr.sureAddr, fieldPlace, sizeOf, typeInfo, hj, hsz, add_flat, Nat.add_assoc]
        · simp only [sheds, ho, shed]
          exact Step.pure hs ⟨l, h1, rfl⟩ rfl
      · rename_i _ cs off _ _
        obtain ⟨b, base, pc, h1, h2, h3⟩ := hr
        refine Does.value (cv := .pointer (some ⟨b, base + (off + g.offset), none⟩)) (w' := w) ?_ ⟨G, B, ?_, Ble.refl _⟩
        · simp [execOp, ho, h3, Instr.fieldAt, run_underlying hu, hg, Instr.sureAddr, fieldPlace, sizeOf, typeInfo, hj, hsz, add_flat, Nat.add_assoc]
        · simp only [sheds, ho, shed]
          exact Step.pure hs ⟨b, base, pc, h1, h2, rfl⟩ rfl
  · cases hz

theorem VRel2.toVRel (hx : VRel2 G B x v) : VRel G B x v := by
  cases x <;> first | exact hx | exact hx.elim

theorem does_field (hs : Sim G B e st a.tmps.toList w) {t : TypeId} {p : Operand} {f : Nat} (ho : o.op = .field t p f) (hv : osem P C h fresh o (peval e) st = some (x, st')) : Goal P h G B e st a w o x st' := by
  simp only [osem, ho] at hv
  obtain ⟨p', hp, hv⟩ := Option.bind_eq_some_iff.1 hv
  obtain ⟨z, hz, hv⟩ := Option.map_eq_some_iff.1 hv
  simp only [Prod.mk.injEq] at hv; obtain ⟨rfl, rfl⟩ := hv
  have hr := (eval_rel hs hp).1
  unfold pfield at hz
  split at hz
  · rename_i fs cs hu
    obtain ⟨g, hg, hz⟩ := Option.bind_eq_some_iff.1 hz
    obtain ⟨vs, h1, h2, h3⟩ := hr
    obtain ⟨av, h4, h5⟩ := takeVar_part (w := w) (vs := vs) ⟨by simpa using h2, fun i x y hx hy => h3 i x y hx (by simpa using hy)⟩ hz
    refine Does.value (cv := av) (w' := w) ?_ ⟨G, B, ?_, Ble.refl _⟩
    · simp [execOp, ho, h1, Instr.field, run_underlying hu, hg, asAgg, h4]
    · simp only [sheds, ho, shed]
      exact Step.pureDem hs h5.toVRel
  · cases hz

theorem flatMap_get {sz : Nat} : ∀ {xs : List PV} {i j : Nat} {y : PV}, (∀ x ∈ xs, x.cells.length = sz) → xs[i]? = some y → j < sz → (xs.flatMap cells)[i * sz + j]? = y.cells[j]?
  | [], _, _, _, _, h, _ => by simp at h
  | x :: xs, 0, j, y, hc, h, hj => by
    simp at h; subst h
    have := hc x (by simp)
    rw [List.flatMap_cons, List.getElem?_append_left (by omega)]; simp
  | x :: xs, i + 1, j, y, hc, h, hj => by
    have h1 := hc x (by simp)
    have := flatMap_get (xs := xs) (i := i) (j := j) (fun z hz => hc z (by simp [hz])) (by simpa using h) hj
    rw [List.flatMap_cons, List.getElem?_append_right (by rw [h1, Nat.add_mul]; omega), h1, ← this]
    congr 1
    rw [Nat.add_mul]; omega

theorem asInt_eval {i : Int} {p : Operand} (hs : Sim G B e st a.tmps.toList w) (hi : (peval e p).bind PV.asInt = some i) : ∃ k, a.eval p = .int k i := by
  obtain ⟨q, hq, hi⟩ := Option.bind_eq_some_iff.1 hi
  cases q <;> simp [PV.asInt] at hi
  subst hi
  exact ⟨_, (eval_rel hs hq).1⟩

theorem does_indexAddr (hs : Sim G B e st a.tmps.toList w) {t : TypeId} {p q : Operand} (ho : o.op = .indexAddr t p q) (hv : osem P C h fresh o (peval e) st = some (x, st')) : Goal P h G B e st a w o x st' := by
  simp only [osem, ho] at hv
  obtain ⟨p', hp, hv1⟩ := Option.bind_eq_some_iff.1 hv
  obtain ⟨i, hi, hv2⟩ := Option.bind_eq_some_iff.1 hv1
  obtain ⟨z, hz, hv3⟩ := Option.map_eq_some_iff.1 hv2
  simp only [Prod.mk.injEq] at hv3; obtain ⟨rfl, rfl⟩ := hv3
  clear hv hv1 hv2
  have hr := (eval_rel hs hp).1
  obtain ⟨k, hk⟩ := asInt_eval hs hi
  unfold pindexAt at hz
  split at hz
  · rename_i el sz nl own xs hu
    obtain ⟨j, hj, hz⟩ := Option.bind_eq_some_iff.1 hz
    split at hz
    · rename_i hc
      obtain ⟨hi0, hi1, hsz⟩ := hc
      obtain ⟨y, hy, rfl⟩ := Option.map_eq_some_iff.1 hz
      obtain ⟨ad, cap, h1, h2, h3, h4, h5⟩ := hr
      cases ad with
      | none => obtain ⟨_, rfl, _⟩ := h5; simp at hy
      | some ad =>
        obtain ⟨h6, h7, h8⟩ := h5
        have hne : xs ≠ [] := by rintro rfl; simp at hy
        obtain ⟨pc, h9, h10⟩ := h8 hne
        have had : ad = ⟨ad.block, ad.off, none⟩ := by cases ad; simp_all
        refine Does.value (cv := .pointer (some ⟨ad.block, ad.off + i.toNat * sz + 0, none⟩)) (w' := w) ?_ ⟨G, B, ?_, Ble.refl _⟩
        · have hadd : ad.add (i.toNat * sz) = ⟨ad.block, ad.off + i.toNat * sz, none⟩ := by rw [had, add_flat]
          simp [execOp, ho, h1, hk, Instr.indexAt, asIntOf, run_underlying hu, hi0, hi1, sizeOf, typeInfo, hj, hsz, hadd]
        · simp only [sheds, ho, shed]
          refine Step.pure hs ⟨ad.block, ad.off + i.toNat * sz, pc, h9, ?_, rfl⟩ rfl
          intro m c hc
          have hm : m < sz := by
            have := (List.getElem?_eq_some_iff.1 hc).1
            rw [h4 y (List.mem_of_getElem? hy)] at this; exact this
          have := flatMap_get h4 hy hm
          rw [hc] at this
          have := h10 _ c this
          rw [← this]; congr 1; omega
    · cases hz
  · rename_i el sz fl b ob' n hu
    obtain ⟨j, hj, hz⟩ := Option.bind_eq_some_iff.1 hz
    split at hz
    · rename_i hc
      obtain ⟨hi0, hi1, hsz⟩ := hc
      cases hz
      obtain ⟨l, cap, h1, h2, h3⟩ := hr
      refine Does.value (cv := .pointer (some ⟨l.blk, l.off + (ob' + i.toNat * sz), none⟩)) (w' := w) ?_ ⟨G, B, ?_, Ble.refl _⟩
      · simp [execOp, ho, h2, hk, Instr.indexAt, asIntOf, run_underlying hu, hi0, hi1, sizeOf, typeInfo, hj, hsz, add_flat, Nat.add_assoc]
      · simp only [sheds, ho, shed]
        exact Step.pure hs ⟨l, h1, rfl⟩ rfl
    · cases hz
  · rename_i n el b k' hu
    obtain ⟨j, hj, hz⟩ := Option.bind_eq_some_iff.1 hz
    split at hz
    · rename_i hc
      obtain ⟨hi0, hi1⟩ := hc
      cases hz
      obtain ⟨l, h1, h2⟩ := hr
      refine Does.value (cv := .pointer (some ⟨l.blk, l.off + (k' + i.toNat * j.size), none⟩)) (w' := w) ?_ ⟨G, B, ?_, Ble.refl _⟩
      · simp [execOp, ho, h2, hk, Instr.indexAt, asIntOf, run_underlying hu, hi0, hi1, sizeOf, typeInfo, hj, Instr.sureAddr, add_flat, Nat.add_assoc]
      · simp only [sheds, ho, shed]
        exact Step.pure hs ⟨l, h1, rfl⟩ rfl
    · cases hz
  · rename_i n el cs k' hu
    obtain ⟨j, hj, hz⟩ := Option.bind_eq_some_iff.1 hz
    split at hz
    · rename_i hc
      obtain ⟨hi0, hi1⟩ := hc
      cases hz
      obtain ⟨b, base, pc, h1, h2, h3⟩ := hr
      refine Does.value (cv := .pointer (some ⟨b, base + (k' + i.toNat * j.size), none⟩)) (w' := w) ?_ ⟨G, B, ?_, Ble.refl _⟩
      · simp [execOp, ho, h3, hk, Instr.indexAt, asIntOf, run_underlying hu, hi0, hi1, sizeOf, typeInfo, hj, Instr.sureAddr, add_flat, Nat.add_assoc]
      · simp only [sheds, ho, shed]
        exact Step.pure hs ⟨b, base, pc, h1, h2, rfl⟩ rfl
    · cases hz
  · cases hz

theorem getElem?_mk (s : List UInt8) (i : Nat) : (⟨s.toArray⟩ : ByteArray)[i]? = s[i]? := by
  by_cases hi : i < s.length
  · have h1 : i < (⟨s.toArray⟩ : ByteArray).size := by simpa [ByteArray.size] using hi
    rw [getElem?_pos _ i h1, List.getElem?_eq_getElem hi]; rfl
  · have h1 : ¬ i < (⟨s.toArray⟩ : ByteArray).size := by simpa [ByteArray.size] using hi
    rw [getElem?_neg _ i h1, List.getElem?_eq_none (by omega)]

theorem does_index (hs : Sim G B e st a.tmps.toList w) {t : TypeId} {p q : Operand} (ho : o.op = .index t p q) (hv : osem P C h fresh o (peval e) st = some (x, st')) : Goal P h G B e st a w o x st' := by
  simp only [osem, ho] at hv
  obtain ⟨p', hp, hv1⟩ := Option.bind_eq_some_iff.1 hv
  obtain ⟨i, hi, hv2⟩ := Option.bind_eq_some_iff.1 hv1
  obtain ⟨z, hz, hv3⟩ := Option.map_eq_some_iff.1 hv2
  simp only [Prod.mk.injEq] at hv3; obtain ⟨rfl, rfl⟩ := hv3
  clear hv hv1 hv2
  have hr := (eval_rel hs hp).1
  obtain ⟨k, hk⟩ := asInt_eval hs hi
  unfold pindex at hz
  split at hz
  · rename_i s hu
    have hr' : a.eval p = _ := hr
    split at hz
    · rename_i hi0
      obtain ⟨b, hb, rfl⟩ := Option.map_eq_some_iff.1 hz
      refine Does.value (cv := .int .u8 b.toNat) (w' := w) ?_ ⟨G, B, ?_, Ble.refl _⟩
      · simp [execOp, ho, hr', hk, Instr.index, asIntOf, run_underlying hu, hi0, getElem?_mk, hb]
      · simp only [sheds, ho, shed]
        exact Step.pureDem hs (x := .int .u8 b.toNat) rfl
    · cases hz
  · rename_i n el cs hu
    obtain ⟨j, hj, hz⟩ := Option.bind_eq_some_iff.1 hz
    split at hz
    · rename_i hc
      obtain ⟨hi0, hi1⟩ := hc
      obtain ⟨vs, h1, h2, h3⟩ := hr
      obtain ⟨av, h4, h5⟩ := takeVar_part (w := w) (vs := vs) ⟨by simpa using h2, fun i x y hx hy => h3 i x y hx (by simpa using hy)⟩ hz
      refine Does.value (cv := av) (w' := w) ?_ ⟨G, B, ?_, Ble.refl _⟩
      · simp [execOp, ho, h1, hk, Instr.index, asIntOf, run_underlying hu, hi0, hi1, sizeOf, typeInfo, hj, h4]
      · simp only [sheds, ho, shed]
        exact Step.pureDem hs h5.toVRel
    · cases hz
  · cases hz
end
end Go.Sim
/- Operations, fourth part: components, slices of strings and lists, loads, stores, new boxes. -/
namespace Go.Sim
open PV

section
variable {P : Program} {G : Gh} {B : List Loc} {e : Env} {st : St} {tm : List Value} {w : World} {x y z : PV} {v u : Value}
variable {h : Hint} {fresh : Bool} {C : Oracle} {a : Act} {o : Oper} {st' : St}

theorem ob3_comp (b : Nat) {ts : List PV} {vs : Array Value} {i : Nat} (hi : ts[i]? = some x) (hv : vs[i]? = some v) (hx : ∀ ts, x ≠ .tup ts) :
    ob3 b (.tup (ts.modify i dem2)) (.tuple vs) + ob3 b x v = ob3 b (.tup ts) (.tuple vs) := by
  have hob : ob3 b x v = obs b x.cells v.cells.toList := by
    unfold ob3; split
    · exact (hx _ rfl).elim
    · rfl
  rw [hob]
  simp only [ob3]
  have hv' : vs.toList[i]? = some v := by simpa using hv
  revert hv'
  generalize vs.toList = us
  clear hv hob
  induction ts generalizing us i with
  | nil => simp at hi
  | cons t ts ih =>
    intro hv'
    cases us with
    | nil => simp at hv'
    | cons u us =>
      cases i with
      | zero =>
        simp at hi hv'
        subst hi; subst hv'
        simp [obs_dem2]; omega
      | succ i =>
        have := ih (i := i) (by simpa using hi) us (by simpa using hv')
        simp only [List.modify_succ_cons, List.zipWith_cons_cons, List.sum_cons]
        omega

/-- A component is taken out of a tuple, which keeps a copy without claims. -/
theorem Sim.takeComp (hs : Sim G B e st tm w) {t i : Nat} {ts : List PV} {vs : Array Value} (hx : e[t]? = some (.tup ts)) (hv : tm[t]? = some (.tuple vs)) (hi : ts[i]? = some x) (hiv : vs[i]? = some v) :
    Sim G B (x :: e.set t (.tup (ts.modify i dem2))) st (v :: tm) w ∧ ∀ b, ob3 b x v + obE b (e.set t (.tup (ts.modify i dem2))) tm = obE b e tm := by
  have hr := hs.rel t _ _ hx hv
  obtain ⟨vs', e1, hlen, hrel⟩ := hr.1
  cases e1
  have hx2 := hrel i x v hi hiv
  have hnt : ∀ ts, x ≠ .tup ts := by rintro ts rfl; exact hx2
  have hcnt : ∀ b, ob3 b x v + obE b (e.set t (.tup (ts.modify i dem2))) tm = obE b e tm := fun b => by
    have h1 := obE_set_eq b (.tup (ts.modify i dem2)) e tm t _ _ hx hv
    have h2 := ob3_comp b hi hiv hnt
    omega
  have hs' : Sim G B (e.set t (.tup (ts.modify i dem2))) st tm w :=
    { hs with
      elen := by simpa using hs.elen
      rel := fun u y z hy hz => by
        by_cases hd : u = t
        · subst hd
          rw [List.getElem?_set_self (List.getElem?_eq_some_iff.1 hx).1] at hy
          cases hy
          rw [hv] at hz; cases hz
          constructor
          · refine ⟨vs, rfl, by simpa using hlen, fun j p q hp hq => ?_⟩
            rw [List.getElem?_modify] at hp
            obtain ⟨p0, hp0, rfl⟩ := Option.map_eq_some_iff.1 hp
            split
            · exact (hrel j p0 q hp0 hq).dem
            · exact hrel j p0 q hp0 hq
          · intro j p q hp hq
            rw [List.getElem?_modify] at hp
            obtain ⟨p0, hp0, rfl⟩ := Option.map_eq_some_iff.1 hp
            split
            · exact Os_dem2 _ _ _ _
            · exact hr.2 j p0 q hp0 hq
        · rw [List.getElem?_set_ne (Ne.symm hd)] at hy
          exact hs.rel u y z hy hz
      uniq := fun b => by have := hs.uniq b; have := hcnt b; omega }
  refine ⟨hs'.push hx2.toVRel ?_ fun b => by have := hs.uniq b; have := hcnt b; omega, hcnt⟩
  have := hr.2 i x v hi hiv
  unfold O3; split
  · exact (hnt _ rfl).elim
  · exact this

theorem does_extract (hs : Sim G B e st a.tmps.toList w) {p : Operand} {i : Nat} (ho : o.op = .extract p i) (hv : osem P C h fresh o (peval e) st = some (x, st')) : Goal P h G B e st a w o x st' := by
  simp only [osem, ho] at hv
  split at hv
  · rename_i ts hp
    obtain ⟨z, hz, hv1⟩ := Option.map_eq_some_iff.1 hv
    simp only [Prod.mk.injEq] at hv1; obtain ⟨rfl, rfl⟩ := hv1
    clear hv
    have hr := (eval_rel hs hp).1
    obtain ⟨vs, h1, h2, h3⟩ := hr
    obtain ⟨u, hu⟩ : ∃ u, vs[i]? = some u := ⟨_, Array.getElem?_eq_getElem (by have := (List.getElem?_eq_some_iff.1 hz).1; omega)⟩
    refine Does.value (cv := u) (w' := w) (by simp [execOp, ho, h1, Instr.extract, hu]) ⟨G, B, ?_, Ble.refl _⟩
    cases p with
    | tmp t =>
      have ht : e[t]? = some (.tup ts) := hp
      have htv := eval_tmp hs ht
      rw [h1] at htv
      obtain ⟨k1, k2⟩ := hs.takeComp ht htv hz hu
      simp only [sheds, ho, shed, ht]
      exact Step.same k1 fun b => by have := k2 b; simp only [obE]; omega
    | const c => exact ((ofVal_rel (G := G) (B := B) (w := w) (show ofVal c = some (.tup ts) from hp)).2.2.2 ts rfl).elim
    | func f => simp [peval] at hp
    | global g => simp [peval] at hp
  · cases hv

def BoundIs (a : Act) (q : Option Operand) (dflt hi n : Nat) : Prop := match q with
  | some p => ∃ k i, a.eval p = .int k i ∧ 0 ≤ i ∧ i ≤ (hi : Int) ∧ i.toNat = n
  | none => n = dflt

theorem sliceB_ok {q : Option Operand} {r : Option (Option PV)} {dflt hi n : Nat} (hs : Sim G B e st a.tmps.toList w) (hr : q.map (peval e) = r) (hnn : r ≠ some none) (hb : sliceB r.join dflt hi = some n) (hd : dflt ≤ hi) :
    n ≤ hi ∧ BoundIs a q dflt hi n := by
  cases q with
  | none =>
    simp at hr; subst hr
    simp [sliceB] at hb
    exact ⟨by omega, hb.symm⟩
  | some p =>
    simp at hr
    cases hp : peval e p with
    | none => rw [hp] at hr; exact (hnn hr.symm).elim
    | some q =>
      rw [hp] at hr; subst hr
      simp only [Option.join_some] at hb
      unfold sliceB at hb
      split at hb
      · rename_i hh; cases hh
      · rename_i k i hh
        cases hh
        split at hb
        · rename_i hc
          cases hb
          exact ⟨by omega, k, i, (eval_rel hs hp).1, hc.1, hc.2, rfl⟩
        · cases hb
      · cases hb

theorem run_sliceBounds (isS : Bool) (len cap l hN : Nat) {lo hi : Option Operand} (hhi : BoundIs a hi len len hN)
    (hlo : BoundIs a lo 0 hN l) (hlc : len ≤ cap) :
    (Instr.sliceBounds isS len cap (lo.map a.eval) (hi.map a.eval) none).run P w = .ok (l, hN, cap) w := by
  cases hi with
  | none =>
    simp only [BoundIs] at hhi; subst hhi
    cases lo with
    | none => simp only [BoundIs] at hlo; subst hlo; simp [Instr.sliceBounds]
    | some p =>
      obtain ⟨k, i, h1, h2, h3, rfl⟩ := hlo
      simp [Instr.sliceBounds, h1, Instr.sliceBound, asIntOf, h2, h3]
  | some q =>
    obtain ⟨k, i, h1, h2, h3, rfl⟩ := hhi
    have hic : i ≤ (cap : Int) := by omega
    cases lo with
    | none => simp only [BoundIs] at hlo; subst hlo; simp [Instr.sliceBounds, h1, Instr.sliceBound, asIntOf, h2, hic]
    | some p =>
      obtain ⟨k', i', g1, g2, g3, rfl⟩ := hlo
      have hi2 : i' ≤ i := by omega
      simp [Instr.sliceBounds, h1, g1, Instr.sliceBound, asIntOf, h2, hic, g2]
      omega

theorem extract_mk (s : List UInt8) (l n : Nat) : (⟨s.toArray⟩ : ByteArray).extract l n = ⟨((s.take n).drop l).toArray⟩ := by
  apply ByteArray.ext
  rw [ByteArray.data_extract]
  simp [List.drop_take]

theorem flatMap_drop {sz : Nat} : ∀ {xs : List PV} (l : Nat), (∀ x ∈ xs, x.cells.length = sz) → (xs.drop l).flatMap cells = (xs.flatMap cells).drop (l * sz)
  | [], l, _ => by simp
  | x :: xs, 0, _ => by simp
  | x :: xs, l + 1, hc => by
    have h1 := hc x (by simp)
    rw [List.drop_succ_cons, flatMap_drop l fun y hy => hc y (by simp [hy]), List.flatMap_cons]
    rw [show (l + 1) * sz = x.cells.length + l * sz by rw [h1, Nat.add_mul]; omega, ← List.drop_drop, List.drop_left]
theorem flatMap_take_seg {xs : List PV} {l n : Nat} {i : Nat} (hx : (((xs.take n).drop l).flatMap cells)[i]? = some x) {sz : Nat} (hc : ∀ x ∈ xs, x.cells.length = sz) : (xs.flatMap cells)[l * sz + i]? = some x := by
  rw [flatMap_drop (sz := sz) l (fun y hy => hc y (List.mem_of_mem_take hy)), List.getElem?_drop] at hx
  have : xs.flatMap cells = (xs.take n).flatMap cells ++ (xs.drop n).flatMap cells := by rw [← List.flatMap_append, List.take_append_drop]
  rw [this, List.getElem?_append_left (List.getElem?_eq_some_iff.1 hx).1]; exact hx

theorem does_slice (hs : Sim G B e st a.tmps.toList w) {t : TypeId} {p : Operand} {lo hi : Option Operand} (ho : o.op = .slice t p lo hi none) (hv : osem P C h fresh o (peval e) st = some (x, st')) : Goal P h G B e st a w o x st' := by
  simp only [osem, ho] at hv
  obtain ⟨p', hp, hv1⟩ := Option.bind_eq_some_iff.1 hv
  clear hv
  have hr := (eval_rel hs hp).1
  split at hv1
  · cases hv1
  · cases hv1
  · rename_i hn1 hn2
    obtain ⟨z, hz, hv2⟩ := Option.map_eq_some_iff.1 hv1
    simp only [Prod.mk.injEq] at hv2; obtain ⟨rfl, rfl⟩ := hv2
    clear hv1
    have fin : ∀ cv, (Instr.sliceAt t (a.eval p) (lo.map a.eval) (hi.map a.eval) none).run P w = .ok cv w → CRel G B z cv → z.dem = z → Goal P h G B e st a w o z st := by
      intro cv h1 h2 h3
      refine Does.value (cv := cv) (w' := w) (by simp [execOp, ho, h1]) ⟨G, B, ?_, Ble.refl _⟩
      simp only [sheds, ho, shed]
      exact Step.pure hs h2.toVRel h3
    unfold pslice at hz
    split at hz
    · rename_i s
      have hr' : a.eval p = .string ⟨s.toArray⟩ := hr
      split at hz
      · rename_i hu
        obtain ⟨hN, hh, hz1⟩ := Option.bind_eq_some_iff.1 hz
        obtain ⟨l, hl, rfl⟩ := Option.map_eq_some_iff.1 hz1
        obtain ⟨q1, q2⟩ := sliceB_ok hs rfl (fun hx => hn2 hx) hh (Nat.le_refl _)
        obtain ⟨r1, r2⟩ := sliceB_ok hs rfl (fun hx => hn1 hx) hl (Nat.zero_le _)
        have hsz : (⟨s.toArray⟩ : ByteArray).size = s.length := by simp [ByteArray.size]
        have hrun := run_sliceBounds (P := P) (w := w) (a := a) false s.length s.length l hN q2 r2 (Nat.le_refl _)
        refine fin (.string ⟨((s.take hN).drop l).toArray⟩) ?_ rfl rfl
        simp only [Instr.sliceAt, Sem.run_bind, run_underlying hu, Result.andThen_ok, Instr.slice, hr']
        simp only [Option.isSome_none, Bool.false_eq_true, if_false, Sem.run_bind, hsz, hrun, Result.andThen_ok, Sem.run_pure, extract_mk]
      · cases hz
    · rename_i sz nl own xs
      obtain ⟨el, hel, hz1⟩ := Option.bind_eq_some_iff.1 hz
      obtain ⟨j, hj, hz2⟩ := Option.bind_eq_some_iff.1 hz1
      clear hz hz1
      have hu : P.underlying t = some (.slice el) := by
        unfold elemOf at hel; split at hel
        · rename_i hh; cases hel; exact hh
        · cases hel
      split at hz2
      · rename_i hsz
        obtain ⟨hN, hh, hz1⟩ := Option.bind_eq_some_iff.1 hz2
        obtain ⟨l, hl, rfl⟩ := Option.map_eq_some_iff.1 hz1
        obtain ⟨q1, q2⟩ := sliceB_ok hs rfl (fun hx => hn2 hx) hh (Nat.le_refl _)
        obtain ⟨r1, r2⟩ := sliceB_ok hs rfl (fun hx => hn1 hx) hl (Nat.zero_le _)
        obtain ⟨ad, cap, h1, h2, h3, h4, h5⟩ := hr
        have hrun := run_sliceBounds (P := P) (w := w) (a := a) true xs.length cap l hN q2 r2 h2
        refine fin (.slice (if cap = l then ad else ad.map (·.add (l * j.size))) (hN - l) (cap - l)) ?_ ?_ rfl
        · simp only [Instr.sliceAt, Sem.run_bind, run_underlying hu, Result.andThen_ok, Instr.slice, h1, hrun, sizeOf, typeInfo, run_program, hj, Sem.run_pure]
        · have hlen : ((xs.take hN).drop l).length = hN - l := by simp; omega
          refine ⟨_, _, by rw [hlen], by omega, by omega, fun y hy => h4 y (List.mem_of_mem_take (List.mem_of_mem_drop hy)), ?_⟩
          cases ad with
          | none =>
            obtain ⟨g1, rfl, rfl⟩ := h5
            simp at q1
            subst q1
            simp [g1]
          | some ad =>
            obtain ⟨g1, g2, g3⟩ := h5
            by_cases hcl : cap = l
            · rw [if_pos hcl]
              refine ⟨g1, g2, fun hne => ?_⟩
              exact absurd (List.length_pos_iff.2 hne) (by rw [hlen]; omega)
            · rw [if_neg hcl]
              have had : ad = ⟨ad.block, ad.off, none⟩ := by cases ad; simp_all
              have hadd : ad.add (l * j.size) = ⟨ad.block, ad.off + l * j.size, none⟩ := by rw [had, add_flat]
              simp only [Option.map_some, hadd]
              refine ⟨g1, trivial, fun hne => ?_⟩
              have hxne : xs ≠ [] := by rintro rfl; simp at hne
              obtain ⟨pc, k1, k2⟩ := g3 hxne
              refine ⟨pc, k1, fun i y hy => ?_⟩
              have hs2 : j.size = sz := hsz.resolve_right hxne
              have := k2 _ _ (flatMap_take_seg hy h4)
              rw [hs2, Nat.add_assoc]; exact this
      · cases hz2
    · rename_i sz fl b ob' n
      obtain ⟨el, hel, hz1⟩ := Option.bind_eq_some_iff.1 hz
      obtain ⟨j, hj, hz2⟩ := Option.bind_eq_some_iff.1 hz1
      clear hz hz1
      have hu : P.underlying t = some (.slice el) := by
        unfold elemOf at hel; split at hel
        · rename_i hh; cases hel; exact hh
        · cases hel
      split at hz2
      · rename_i hsz
        obtain ⟨hN, hh, hz1⟩ := Option.bind_eq_some_iff.1 hz2
        obtain ⟨l, hl, hz3⟩ := Option.bind_eq_some_iff.1 hz1
        split at hz3
        · rename_i hln
          cases hz3
          obtain ⟨q1, q2⟩ := sliceB_ok hs rfl (fun hx => hn2 hx) hh (Nat.le_refl _)
          obtain ⟨r1, r2⟩ := sliceB_ok hs rfl (fun hx => hn1 hx) hl (Nat.zero_le _)
          obtain ⟨lc, cap, h1, h2, h3, h4, h5, h6⟩ := hr
          have hrun := run_sliceBounds (P := P) (w := w) (a := a) true n cap l hN q2 r2 h3
          refine fin (.slice (some ⟨lc.blk, lc.off + (ob' + l * sz), none⟩) (hN - l) (cap - l)) ?_ ⟨lc, cap - l, h1, rfl, by omega, by omega, ?_, ?_⟩ rfl
          · simp only [Instr.sliceAt, Sem.run_bind, run_underlying hu, Result.andThen_ok, Instr.slice, h2, hrun, sizeOf, typeInfo, run_program, hj, Sem.run_pure, hsz, Option.map_some, add_flat]
            by_cases hcl : cap = l
            · have : l = 0 := by omega
              subst this
              simp [hcl]
            · simp [hcl, Nat.add_assoc]
          · have hm : hN * sz ≤ n * sz := Nat.mul_le_mul_right _ q1
            have hm2 : l * sz + (hN - l) * sz = hN * sz := by rw [← Nat.add_mul]; congr 1; omega
            omega
          · intro hf
            simp at hf
            have := h6 hf.1
            omega
        · cases hz3
      · cases hz2
    · cases hz
end
end Go.Sim
/- Operations, fifth part: loads, stores, new boxes. -/
namespace Go.Sim
open PV

section
variable {P : Program} {G : Gh} {B : List Loc} {e : Env} {st : St} {tm : List Value} {w : World} {x y z : PV} {v u : Value}
variable {h : Hint} {fresh : Bool} {C : Oracle} {a : Act} {o : Oper} {st' : St}

theorem CRel.one (hx : x.store1 = true) (h : CRel G B x v) : one v = true := by
  cases x <;> simp only [store1, Bool.false_eq_true] at hx
  all_goals try (cases h; rfl)
  · obtain ⟨_, _, rfl⟩ := h; rfl
  · obtain ⟨_, _, _, _, _, rfl⟩ := h; rfl
  · obtain ⟨_, _, rfl, _⟩ := h; rfl
  · obtain ⟨_, _, _, rfl, _⟩ := h; rfl
  · rename_i i
    obtain ⟨rfl, _⟩ := h
    unfold conVal; split <;> rfl

theorem one_cells (hv : one v = true) : v.cells = #[v] := by
  cases v <;> first | rfl | cases hv
theorem CRel.scalar (h : CRel G B x v) : x.cells = [x] := by
  cases x <;> first | rfl | exact h.elim

/-- A variable is read out of a block. -/
theorem run_loadVar_at {t : TypeId} {cs : List PV} {k g ob' : Nat} {c : Array Value} {el : TypeId} {fr : Nat × Nat} (hg : w.heap[g]? = some (.cells c el fr))
    (hc : ∀ (j : Nat) y, cs[j]? = some y → ∃ v, c[ob' + j]? = some v ∧ one v = true ∧ CRel G B y v) (hx : takeVar P t cs k = some x) :
    ∃ av, (loadVar t ⟨g, ob' + k, none⟩).run P w = .ok av w ∧ VRel2 G B x av ∧ x.cells = (cs.drop k).take x.cells.length ∧ av.cells.toList = (c.toList.drop (ob' + k)).take x.cells.length ∧ k + x.cells.length ≤ cs.length ∧ x.cells.length = av.cells.size := by
  have hlenc : cs.length + ob' ≤ c.size ∨ cs.length = 0 := by
    by_cases h0 : cs.length = 0
    · exact .inr h0
    · left
      obtain ⟨v, hv, _⟩ := hc (cs.length - 1) _ (List.getElem?_eq_getElem (by omega))
      have := (Array.getElem?_eq_some_iff.1 hv).1
      omega
  unfold takeVar at hx
  split at hx
  · rename_i i hag hi
    split at hx
    · rename_i hle
      cases hx
      have hl : ((cs.drop k).take i.size).length = i.size := by simp; omega
      have hcl : ((c.toList.drop (ob' + k)).take i.size).length = i.size := by simp; omega
      have hcell : ∀ j v, ((c.toList.drop (ob' + k)).take i.size)[j]? = some v → w.cell? ((⟨g, ob' + k, none⟩ : Addr).add j) = some v := by
        intro j v hv
        rw [List.getElem?_take] at hv
        split at hv
        · rw [List.getElem?_drop] at hv
          rw [add_flat]
          simp only [World.cell?, hg]
          simpa using hv
        · cases hv
      have hrun := run_loadCells_list (P := P) w ⟨g, ob' + k, none⟩ _ hcell
      rw [hcl] at hrun
      refine ⟨.agg ((c.toList.drop (ob' + k)).take i.size).toArray, ?_, ?_, ?_, ?_, ?_, ?_⟩
      · simp [loadVar, run_isAgg hag, sizeOf, typeInfo, hi, hrun]
      · refine ⟨_, rfl, by rw [hl]; simp only [List.size_toArray]; exact hcl.symm, ?_⟩
        intro j p q hp hq
        rw [List.getElem?_take] at hp
        split at hp
        · rename_i hj
          rw [List.getElem?_drop] at hp
          rw [List.getElem?_toArray, List.getElem?_take, if_pos hj, List.getElem?_drop] at hq
          obtain ⟨v, h1, _, h2⟩ := hc _ p hp
          rw [Array.getElem?_toList, show ob' + k + j = ob' + (k + j) by omega, h1] at hq
          cases hq; exact h2
        · cases hp
      · simp only [cells, hl]
      · simp only [cells, hl, Value.cells]
      · simp only [cells, hl]; omega
      · simp only [cells, hl, Value.cells, List.size_toArray, hcl]
    · cases hx
  · rename_i i hag hi
    obtain ⟨v, h1, h2, h3⟩ := hc k x hx
    have hsc := h3.scalar
    have hv := one_cells h2
    have hk := (List.getElem?_eq_some_iff.1 hx)
    refine ⟨v, ?_, ?_, ?_, ?_, ?_, ?_⟩
    · have hcell : w.cell? ⟨g, ob' + k, none⟩ = some v := by simp only [World.cell?, hg]; simpa using h1
      simp [loadVar, run_isAgg hag, hcell]
    · cases x <;> first | exact h3 | exact h3.elim
    · rw [hsc]
      simp only [List.length_singleton]
      obtain ⟨hk1, hk2⟩ := hk
      rw [List.drop_eq_getElem_cons hk1, hk2]; simp
    · rw [hsc, hv]
      simp only [List.length_singleton]
      obtain ⟨hk1, hk2⟩ := Array.getElem?_eq_some_iff.1 h1
      rw [List.drop_eq_getElem_cons (by simpa using hk1)]
      simp [hk2]
    · rw [hsc]; simp only [List.length_singleton]; have := hk.1; omega
    · rw [hsc, hv]; rfl
  · cases hx

theorem VRel2.ntup (h : VRel2 G B x v) : ∀ ts, x ≠ .tup ts := by rintro ts rfl; exact h

/-- What a box holds. -/
theorem box_cells (hs : Sim G B e st tm w) {b : Nat} {l : Loc} {cs : List PV} (hl : B[b]? = some l) (hc : st[b]? = some cs) :
    ∃ c el fr, w.heap[l.blk]? = some (.cells c el fr) ∧ l.off + l.len ≤ c.size ∧ (∀ o, l.off ≤ o → o < l.off + l.len → ¬ (fr.1 ≤ o ∧ o < fr.2)) ∧ cs.length = l.len ∧
      ∀ (j : Nat) y, cs[j]? = some y → ∃ v, c[l.off + j]? = some v ∧ one v = true ∧ CRel G B y v := by
  have hb := hs.boxes b l cs hl hc
  obtain ⟨c, el, fr, h1, h2, h3⟩ := hb.heap
  refine ⟨c, el, fr, h1, h2, h3, hb.len, fun j y hy => ?_⟩
  have hj : j < l.len := by have := (List.getElem?_eq_some_iff.1 hy).1; rw [hb.len] at this; exact this
  obtain ⟨v, hv⟩ : ∃ v, c[l.off + j]? = some v := ⟨_, Array.getElem?_eq_getElem (by omega)⟩
  have := hb.cells j y v hy (by rw [cellsAt_get h1 j hj]; exact hv)
  exact ⟨v, hv, this⟩

theorem does_load (hs : Sim G B e st a.tmps.toList w) {t : TypeId} {p : Operand} (ho : o.op = .load t p) (hv : osem P C h fresh o (peval e) st = some (x, st')) : Goal P h G B e st a w o x st' := by
  simp only [osem, ho] at hv
  split at hv
  · rename_i b k hp
    obtain ⟨cs, hcs, hv1⟩ := Option.bind_eq_some_iff.1 hv
    obtain ⟨z, hz, hv2⟩ := Option.map_eq_some_iff.1 hv1
    clear hv hv1
    have hr := (eval_rel hs hp).1
    obtain ⟨l, hl, hpv⟩ := hr
    obtain ⟨c, el, fr, h1, h2, h3, h4, h5⟩ := box_cells hs hl hcs
    obtain ⟨av, k1, k2, k3, k4, k5, k6⟩ := run_loadVar_at (P := P) (t := t) (k := k) h1 h5 hz
    have hrun : (execOp a.eval o).run P w = .ok (.value av) w := by simp [execOp, ho, hpv, Instr.loadAt, Instr.sureAddr, k1]
    cases htk : takes h o
    · rw [htk] at hv2
      simp only [Bool.false_eq_true, if_false, Prod.mk.injEq] at hv2
      obtain ⟨rfl, rfl⟩ := hv2
      refine Does.value hrun ⟨G, B, ?_, Ble.refl _⟩
      simp only [sheds, ho, shed]
      exact Step.pureDem hs k2.toVRel
    · rw [htk] at hv2
      simp only [if_true, Prod.mk.injEq] at hv2
      obtain ⟨rfl, rfl⟩ := hv2
      refine Does.value hrun ⟨G, B, ?_, Ble.refl _⟩
      simp only [sheds, ho, shed]
      have hca : av.cells.toList = ((cellsAt w l).drop k).take z.cells.length := by
        rw [k4]
        simp only [cellsAt, h1]
        rw [List.drop_take, List.drop_drop, List.take_take]
        congr 1; omega
      obtain ⟨q1, q2⟩ := hs.boxTake (x := z) (v := av) hl hcs (k := k) (n := z.cells.length) k5 k2.ntup k3 hca k2.toVRel
      exact Step.same q1 fun b => by have := q2 b; simp only [obE]; omega
  · rename_i cs k hp
    obtain ⟨z, hz, hv2⟩ := Option.map_eq_some_iff.1 hv
    simp only [Prod.mk.injEq] at hv2
    obtain ⟨rfl, rfl⟩ := hv2
    clear hv
    have hr := (eval_rel hs hp).1
    obtain ⟨b, base, pc, h1, h2, h3⟩ := hr
    obtain ⟨c, el, fr, g1, g2, g3⟩ := hs.rows b pc h1
    obtain ⟨av, k1, k2, _⟩ := run_loadVar_at (P := P) (G := G) (B := B) (t := t) (k := k) (cs := cs) (ob' := base) g1 (fun j y hy => by
      obtain ⟨q1, v, q2, q3, q4⟩ := g3 _ y (h2 j y hy)
      exact ⟨v, q2, q3, q4.plain q1⟩) hz
    refine Does.value (cv := av) (w' := w) (by simp [execOp, ho, h3, Instr.loadAt, Instr.sureAddr, k1]) ⟨G, B, ?_, Ble.refl _⟩
    simp only [sheds, ho, shed]
    exact Step.pureDem hs k2.toVRel
  · cases hv

theorem all_store_ntup (hx : x.cells.all store1 = true) : ∀ ts, x ≠ .tup ts := by
  rintro ts rfl; simp [cells, store1] at hx

theorem VRel.cells_rel (h : VRel G B x v) (hx : x.cells.all store1 = true) : x.cells.length = v.cells.toList.length ∧ ∀ (j : Nat) y u, x.cells[j]? = some y → v.cells.toList[j]? = some u → one u = true ∧ CRel G B y u := by
  have hnt := all_store_ntup hx
  have h2 : VRel2 G B x v := by cases x <;> first | exact h | exact (hnt _ rfl).elim
  by_cases hagg : ∃ cs, x = .agg cs
  · obtain ⟨cs, rfl⟩ := hagg
    obtain ⟨vs, rfl, h3, h4⟩ := h2
    refine ⟨by simpa [cells, Value.cells] using h3, fun j y u hy hu => ?_⟩
    have h5 := h4 j y u hy (by simpa [Value.cells] using hu)
    exact ⟨h5.one (List.all_eq_true.1 hx y (List.mem_of_getElem? hy)), h5⟩
  · have h3 : CRel G B x v := by cases x <;> first | exact h2 | exact (hagg ⟨_, rfl⟩).elim | exact (hnt _ rfl).elim
    have hsc := h3.scalar
    rw [hsc] at hx ⊢
    have h1 := h3.one (by simpa using hx)
    rw [one_cells h1]
    refine ⟨rfl, fun j y u hy hu => ?_⟩
    cases j <;> simp at hy hu
    subst hy; subst hu; exact ⟨h1, h3⟩

theorem does_store (hs : Sim G B e st a.tmps.toList w) {t : TypeId} {p q : Operand} (ho : o.op = .store t p q) (hv : osem P C h fresh o (peval e) st = some (x, st')) : Goal P h G B e st a w o x st' := by
  simp only [osem, ho] at hv
  split at hv
  · rename_i b k y i hp hq hi
    obtain ⟨cs, hcs, hv1⟩ := Option.bind_eq_some_iff.1 hv
    clear hv
    split at hv1
    · rename_i hcond
      obtain ⟨c1, c2, c3⟩ := hcond
      cases hv1
      have hr := (eval_rel hs hp).1
      have hyr := (eval_rel hs hq).1
      obtain ⟨l, hl, hpv⟩ := hr
      obtain ⟨c, el, fr, h1, h2, h3, h4, h5⟩ := box_cells hs hl hcs
      obtain ⟨m1, m2⟩ := hyr.cells_rel c3
      obtain ⟨n1, n2⟩ := hs.takeOp hq
      obtain ⟨w', c', r1, r2, r3, r4, r5, r6, r7, r8⟩ := run_store_cells (P := P) l.blk el fr (l.off + k) (a.eval q).cells.toList 0 c w h1 (by omega) (fun j hj hj' => h3 j (by omega) (by omega)) (fun u hu => by
        obtain ⟨j, hj⟩ := List.getElem?_of_mem hu
        have hjl := (List.getElem?_eq_some_iff.1 hj).1
        exact (m2 j _ u (List.getElem?_eq_getElem (by omega)) hj).1)
      rw [Nat.add_zero] at r3
      have hsize : (a.eval q).cells.size = i.size := by rw [← c1, m1]; simp
      obtain ⟨s1, s2, s3⟩ := n1.boxSet (k := k) hl hcs h1 r2 r3 r4 r5 r6 r7 r8 (all_store_ntup c3) m1 (by omega) m2
      have hsh : sheds h o = tmpOf q := by simp only [sheds, ho]
      refine Does.skip (w' := w') ?_ ⟨G, B, ⟨by rw [hsh]; exact s1.pushFree (x := .undef) (v := undef) trivial rfl, ?_, ?_, fun _ hl' => .inr hl', ?_⟩, Ble.refl _⟩
      · simp [execOp, ho, hpv, Instr.storeAt, Instr.sureAddr, storeVar, hsize, sizeOf, typeInfo, hi, r1]
      · exact s2.weaken fun b hb => .inr ⟨l, List.mem_of_getElem? hl, hb.symm⟩
      · intro b' hb'
        have e1 := s3 b'
        have e2 := n2 b'
        rw [hsh] at hb'
        simp only [obE] at hb'
        have e3 : ob3 b' .undef undef = 0 := by simp [ob3, cells, undef, Value.cells, obs, ob]
        rw [e3] at hb'
        refine .inl (.inl ?_)
        omega
      · intro m hm
        by_cases hml : m.blk = l.blk
        · have : m = l := hs.boxEq hm (List.mem_of_getElem? hl) hml
          subst this
          intro c0 el0 fr0 hc0
          rw [h1] at hc0; cases hc0
          have hsz : c'.size = c.size := by
            have := congrArg List.length r3
            rw [length_setCells] at this; simpa using this
          refine ⟨c', r2, hsz, fun j hj => ?_⟩
          rw [← Array.getElem?_toList, r3, getElem?_setCells _ _ _ _ (by simp only [Array.length_toList] at m1 ⊢; omega), if_neg (by omega), Array.getElem?_toList]
        · exact Out.same (r4 _ hml)
    · cases hv1
  · cases hv
end
end Go.Sim
/- Operations, sixth part: what makes boxes. -/
namespace Go.Sim
open PV

section
variable {P : Program} {G : Gh} {B : List Loc} {e : Env} {st : St} {tm : List Value} {w : World} {x y z : PV} {v u : Value}
variable {h : Hint} {fresh : Bool} {C : Oracle} {a : Act} {o : Oper} {st' : St}

theorem Step.ofNewBox {w' : World} {e1 : Env} {cs : List PV} {cv : Value} (h0 : Sim G B e st tm w) (hs : Sim G B e1 st tm w) (c : Array Value) (el : TypeId) (fr : Nat × Nat) (hh : w'.heap = w.heap.push (.cells c el fr)) (h1 : w'.os = w.os) (h2 : w'.tape = w.tape) (h3 : w'.output = w.output)
    (hfr : ∀ o, o < c.size → ¬ (fr.1 ≤ o ∧ o < fr.2)) (hl : cs.length ≤ c.size) (hc : ∀ (i : Nat) x v, cs[i]? = some x → c[i]? = some v → one v = true ∧ CRel G B x v)
    (ho : Os G w cs c.toList) (hu : ∀ b, obs b cs (c.toList.take cs.length) + obE b e1 tm ≤ obE b e tm)
    (hx : ∀ B' : List Loc, B'[st.length]? = some ⟨w.heap.size, 0, cs.length⟩ → CRel G B' x cv) (hd : x.dem = x) :
    Step G B e st tm w G (B ++ [⟨w.heap.size, 0, cs.length⟩]) (x :: e1) (st ++ [cs]) (cv :: tm) w' := by
  obtain ⟨k1, k2, k3⟩ := hs.newBox c el fr hh h1 h2 h3 hfr cs hl hc ho fun b => by have := hu b; have := h0.uniq b; omega
  have hget : (B ++ [(⟨w.heap.size, 0, cs.length⟩ : Loc)])[st.length]? = some ⟨w.heap.size, 0, cs.length⟩ := by
    rw [← h0.blen]; simp
  have k4 := k1.pushFree (hx _ hget).toVRel hd
  refine Step.fresh h0 k4 k2 (fun b _ => ?_) fun l hl' => ?_
  · have q1 := hu b
    have q2 := k3 b
    have q3 := ob3_dem b x cv
    rw [hd] at q3
    simp only [obE]; omega
  · rcases List.mem_append.1 hl' with hl' | hl'
    · exact .inr hl'
    · simp at hl'; subst hl'; exact .inl (Nat.le_refl _)

theorem ofVal_cells {z : Value} {y : PV} (h : ofVal z = some y) : y.cells.length = z.cells.toList.length ∧ ∀ (i : Nat) x v, y.cells[i]? = some x → z.cells.toList[i]? = some v → ofVal1 v = some x := by
  unfold ofVal at h
  split at h
  · rename_i cs
    obtain ⟨xs, hxs, rfl⟩ := Option.map_eq_some_iff.1 h
    exact ofVals_rel hxs
  · rename_i hn
    obtain ⟨_, _, _, h4, h5, _⟩ := ofVal1_rel (G := fun _ => none) (B := []) (w := default) h
    rw [h4, h5]
    refine ⟨rfl, fun i x v hx hv => ?_⟩
    cases i <;> simp at hx hv
    subst hx; subst hv; exact h

theorem zeroCellsOf_ok {t : TypeId} {cs : List PV} (h : zeroCellsOf P t = some cs) : ∃ i z, P.info? t = some i ∧ i.zero = some z ∧ cs.length = z.cells.toList.length ∧
    ∀ (j : Nat) x v, cs[j]? = some x → z.cells.toList[j]? = some v → ofVal1 v = some x := by
  unfold zeroCellsOf at h
  obtain ⟨i, hi, h⟩ := Option.bind_eq_some_iff.1 h
  obtain ⟨z, hz, h⟩ := Option.bind_eq_some_iff.1 h
  obtain ⟨y, hy, rfl⟩ := Option.map_eq_some_iff.1 h
  obtain ⟨k1, k2⟩ := ofVal_cells hy
  exact ⟨i, z, hi, hz, k1, k2⟩

theorem does_alloc (hs : Sim G B e st a.tmps.toList w) {t : TypeId} (ho : o.op = .alloc t) (hv : osem P C h fresh o (peval e) st = some (x, st')) : Goal P h G B e st a w o x st' := by
  simp only [osem, ho] at hv
  obtain ⟨cs, hcs, hv1⟩ := Option.map_eq_some_iff.1 hv
  simp only [Prod.mk.injEq] at hv1
  obtain ⟨rfl, rfl⟩ := hv1
  clear hv
  obtain ⟨i, z, hi, hz, h1, h2⟩ := zeroCellsOf_ok hcs
  have hrel : ∀ (j : Nat) x v, cs[j]? = some x → z.cells[j]? = some v → ofVal1 v = some x := fun j x v hx hv => h2 j x v hx (by simpa using hv)
  refine Does.value (cv := .pointer (some ⟨w.heap.size, 0, none⟩)) (w' := { w with heap := w.heap.push (.cells z.cells t) }) ?_ ⟨G, B ++ [⟨w.heap.size, 0, cs.length⟩], ?_, Ble.append _ _⟩
  · simp [execOp, ho, Instr.alloc, zeroValue, typeInfo, hi, hz, newVar, newRow]
  · simp only [sheds, ho, shed]
    refine Step.ofNewBox hs hs z.cells t (0, 0) rfl rfl rfl rfl (by simp) (by rw [h1]; simp) (fun j x v hx hv => ?_) (fun j x v hx hv => ?_) (fun b => ?_) (fun B' hB' => ⟨_, hB', rfl⟩) rfl
    · obtain ⟨q1, _, _, _, _, _, _, q2, _⟩ := ofVal1_rel (G := G) (B := B) (w := w) (hrel j x v hx hv)
      exact ⟨q2, q1⟩
    · exact (ofVal1_rel (G := G) (B := B) (w := w) (h2 j x v hx hv)).2.2.1
    · have : obs b cs (z.cells.toList.take cs.length) = 0 := obs_zero fun j x v hx hv => by
        rw [List.getElem?_take] at hv
        split at hv
        · exact (ofVal1_rel (G := G) (B := B) (w := w) (h2 j x v hx hv)).2.1 b
        · cases hv
      omega

theorem O3.os (h : O3 G w x v) (hx : ∀ ts, x ≠ .tup ts) : Os G w x.cells v.cells.toList := by
  unfold O3 at h; split at h
  · exact (hx _ rfl).elim
  · exact h
theorem ob3_obs (b : Nat) (hx : ∀ ts, x ≠ .tup ts) : ob3 b x v = obs b x.cells v.cells.toList := by
  unfold ob3; split
  · exact (hx _ rfl).elim
  · rfl

theorem does_box (hs : Sim G B e st a.tmps.toList w) {t : TypeId} {p : Operand} (ho : o.op = .box t p) (hv : osem P C h fresh o (peval e) st = some (x, st')) : Goal P h G B e st a w o x st' := by
  simp only [osem, ho] at hv
  obtain ⟨y, hy, hv1⟩ := Option.bind_eq_some_iff.1 hv
  clear hv
  split at hv1
  · rename_i hst
    cases hv1
    have hyr := (eval_rel hs hy).1
    have hnt := all_store_ntup hst
    obtain ⟨m1, m2⟩ := hyr.cells_rel hst
    obtain ⟨n1, n2⟩ := hs.takeOp hy
    have hsh : sheds h o = tmpOf p := by simp only [sheds, ho]
    refine Does.value (cv := .pointer (some ⟨w.heap.size, 0, none⟩)) (w' := { w with heap := w.heap.push (.cells (a.eval p).cells t) }) ?_ ⟨G, B ++ [⟨w.heap.size, 0, y.cells.length⟩], ?_, Ble.append _ _⟩
    · simp [execOp, ho, Instr.box, newVar, newRow]
    · rw [hsh]
      refine Step.ofNewBox hs n1.drop (a.eval p).cells t (0, 0) rfl rfl rfl rfl (by simp) (by rw [m1]; simp) (fun j x v hx hv => m2 j x v hx (by simpa using hv)) ((n1.rel 0 _ _ rfl rfl).2.os hnt) (fun b => ?_) (fun B' hB' => ⟨_, hB', rfl⟩) rfl
      have q1 := n2 b
      rw [ob3_obs b hnt] at q1
      rw [m1, List.take_length]
      omega
  · cases hv1
end
end Go.Sim
/- Operations, seventh part: aggregates and slices that are built. -/
namespace Go.Sim
open PV

section
variable {P : Program} {G : Gh} {B : List Loc} {e : Env} {st : St} {tm : List Value} {w : World} {x y z : PV} {v u : Value}
variable {h : Hint} {fresh : Bool} {C : Oracle} {a : Act} {o : Oper} {st' : St}

theorem peval_shed_ne {q : Operand} {t : Nat} {y : PV} (hne : ∀ s ∈ tmpOf q, s.1 ≠ t) : peval (e.set t y) q = peval e q := by
  cases q with
  | tmp s =>
    have : s ≠ t := hne (s, none) (by simp [tmpOf])
    simp only [peval]
    rw [List.getElem?_set_ne (Ne.symm this)]
  | _ => rfl

theorem pargs_congr {ρ ρ' : Operand → Option PV} : ∀ {os : List Operand}, (∀ q ∈ os, ρ q = ρ' q) → pargs ρ os = pargs ρ' os
  | [], _ => rfl
  | q :: os, h => by
    simp only [pargs]
    rw [h q (by simp), pargs_congr (os := os) fun r hr => h r (by simp [hr])]

theorem pargs_spec {ρ : Operand → Option PV} : ∀ {os : List Operand} {xs : List PV}, pargs ρ os = some xs → xs.length = os.length ∧ ∀ (i : Nat) q x, os[i]? = some q → xs[i]? = some x → ρ q = some x
  | [], xs, h => by simp [pargs] at h; subst h; simp
  | q :: os, xs, h => by
    simp only [pargs] at h
    obtain ⟨x, hx, h⟩ := Option.bind_eq_some_iff.1 h
    obtain ⟨ys, hys, rfl⟩ := Option.map_eq_some_iff.1 h
    obtain ⟨h1, h2⟩ := pargs_spec hys
    refine ⟨by simp [h1], fun i r y hr hy => ?_⟩
    cases i with
    | zero => simp at hr hy; subst hr; subst hy; exact hx
    | succ i => exact h2 i r y (by simpa using hr) (by simpa using hy)

theorem shed_append (e : Env) : ∀ (l m : List (Tmp × Option Nat)), shed e (l ++ m) = shed (shed e l) m
  | [], _ => rfl
  | (t, none) :: l, m => by simp only [List.cons_append, shed]; exact shed_append _ l m
  | (t, some i) :: l, m => by simp only [List.cons_append, shed]; exact shed_append _ l m

/-- Values are taken out of different temporaries. -/
theorem Sim.takeMany : ∀ {os : List Operand} {e : Env} {xs : List PV}, Sim G B e st a.tmps.toList w → pargs (peval e) os = some xs → okTake os = true →
    Sim G B (shed e (os.flatMap tmpOf)) st a.tmps.toList w ∧ ∀ b, obE b xs (os.map a.eval) + obE b (shed e (os.flatMap tmpOf)) a.tmps.toList = obE b e a.tmps.toList
  | [], e, xs, hs, hx, _ => by
    simp [pargs] at hx; subst hx
    exact ⟨hs, fun b => by simp [obE, shed]⟩
  | q :: os, e, xs, hs, hx, hn => by
    simp only [pargs] at hx
    obtain ⟨x, hx0, hx⟩ := Option.bind_eq_some_iff.1 hx
    obtain ⟨ys, hys, rfl⟩ := Option.map_eq_some_iff.1 hx
    obtain ⟨n1, n2⟩ := hs.takeOp hx0
    have hn0 := of_decide_eq_true hn
    rw [List.flatMap_cons, List.map_append, List.nodup_append] at hn0
    have hcong : pargs (peval (shed e (tmpOf q))) os = some ys := by
      rw [← hys]
      apply pargs_congr
      intro r hr
      cases q with
      | tmp t =>
        have ht : e[t]? = some x := hx0
        simp only [tmpOf, shed, ht]
        refine peval_shed_ne fun s hs' he => ?_
        exact hn0.2.2 t (by simp [tmpOf]) s.1 (List.mem_map_of_mem (List.mem_flatMap.2 ⟨r, hr, hs'⟩)) he.symm
      | _ => rfl
    obtain ⟨k1, k2⟩ := Sim.takeMany n1.drop hcong (decide_eq_true hn0.2.1)
    rw [List.flatMap_cons, shed_append]
    refine ⟨k1, fun b => ?_⟩
    have := n2 b
    have := k2 b
    simp only [List.map_cons, obE]; omega

theorem foldl_set (off : Nat) : ∀ (us : List Value) (k : Nat) (cells : Array Value), ((us.zipIdx k).foldl (fun cs (p : Value × Nat) => cs.setIfInBounds (off + p.2) p.1) cells).toList = setCells cells.toList (off + k) us
  | [], k, cells => by simp [setCells]
  | u :: us, k, cells => by
    simp only [List.zipIdx_cons, List.foldl_cons]
    rw [foldl_set off us (k + 1)]
    simp only [setCells, Array.toList_setIfInBounds, Nat.add_assoc]

theorem fill_ok {pplace place : Nat → Option (Nat × Nat)} (hpl : ∀ i p, pplace i = some p → place i = some p) : ∀ {parts : List (Nat × PV)} {vparts : List (Nat × Value)} {cs cs' : List PV} {vs : Array Value},
    parts.length = vparts.length → (∀ (i : Nat) p q, parts[i]? = some p → vparts[i]? = some q → p.1 = q.1 ∧ VRel G B p.2 q.2 ∧ O3 G w p.2 q.2) → AllC G B cs vs.toList → (∀ v ∈ vs.toList, one v = true) → Os G w cs vs.toList → fillCells pplace cs parts = some cs' →
    ∃ vs' : Array Value, Instr.fill place vs vparts = some vs' ∧ AllC G B cs' vs'.toList ∧ (∀ v ∈ vs'.toList, one v = true) ∧ Os G w cs' vs'.toList ∧ ∀ b, obs b cs' vs'.toList ≤ obs b cs vs.toList + obE b (parts.map (·.2)) (vparts.map (·.2))
  | [], vparts, cs, cs', vs, hl, _, hc, h1, hos, hf => by
    simp at hl
    have : vparts = [] := by cases vparts <;> simp_all
    subst this
    simp [fillCells] at hf; subst hf
    exact ⟨vs, rfl, hc, h1, hos, fun b => by simp [obE]⟩
  | (i, x) :: parts, vparts, cs, cs', vs, hl, hr, hc, h1, hos, hf => by
    cases vparts with
    | nil => simp at hl
    | cons q vparts =>
      obtain ⟨i', v⟩ := q
      obtain ⟨hi, hxv, hO⟩ := hr 0 _ _ rfl rfl
      simp only at hi hxv hO; subst hi
      simp only [fillCells] at hf
      split at hf
      · cases hf
      · rename_i off size hp
        split at hf
        · rename_i hcond
          obtain ⟨c1, c2, c3⟩ := hcond
          obtain ⟨m1, m2⟩ := hxv.cells_rel c3
          have hnt := all_store_ntup c3
          have hvl : v.cells.toList.length = size := by rw [← m1]; exact c1
          have hvs : v.cells.size = size := by simpa using hvl
          have hlen : cs.length = vs.toList.length := hc.1
          have hfold := foldl_set off v.cells.toList 0 vs
          have hz : v.cells.zipIdx.foldl (fun cs (p : Value × Nat) => cs.setIfInBounds (off + p.2) p.1) vs = (v.cells.toList.zipIdx 0).foldl (fun cs (p : Value × Nat) => cs.setIfInBounds (off + p.2) p.1) vs := by
            rw [← Array.foldl_toList, Array.toList_zipIdx]
          obtain ⟨vs', k1, k2, k3, k4, k5⟩ := fill_ok hpl (vs := v.cells.zipIdx.foldl (fun cs (p : Value × Nat) => cs.setIfInBounds (off + p.2) p.1) vs) (by simpa using hl) (fun j p q hp hq => hr (j + 1) p q (by simpa using hp) (by simpa using hq))
            (by
              rw [hz, hfold, Nat.add_zero]
              refine ⟨by rw [length_setCells, length_setCells]; exact hlen, fun j p q hp hq => ?_⟩
              rw [getElem?_setCells _ _ _ _ (by omega)] at hp
              rw [getElem?_setCells _ _ _ _ (by omega)] at hq
              by_cases hh : off ≤ j ∧ j < off + x.cells.length
              · rw [if_pos hh] at hp; rw [if_pos (by omega)] at hq; exact (m2 _ p q hp hq).2
              · rw [if_neg hh] at hp; rw [if_neg (by omega)] at hq; exact hc.2 j p q hp hq)
            (by
              rw [hz, hfold, Nat.add_zero]
              intro q hq
              obtain ⟨j, hj⟩ := List.getElem?_of_mem hq
              rw [getElem?_setCells _ _ _ _ (by omega)] at hj
              split at hj
              · have hjl := (List.getElem?_eq_some_iff.1 hj).1
                exact (m2 _ _ q (List.getElem?_eq_getElem (by omega)) hj).1
              · exact h1 q (List.mem_of_getElem? hj))
            (by
              rw [hz, hfold, Nat.add_zero]
              intro j p q hp hq
              rw [getElem?_setCells _ _ _ _ (by omega)] at hp
              rw [getElem?_setCells _ _ _ _ (by omega)] at hq
              by_cases hh : off ≤ j ∧ j < off + x.cells.length
              · rw [if_pos hh] at hp; rw [if_pos (by omega)] at hq; exact hO.os hnt _ p q hp hq
              · rw [if_neg hh] at hp; rw [if_neg (by omega)] at hq; exact hos j p q hp hq) hf
          refine ⟨vs', ?_, k2, k3, k4, fun b => ?_⟩
          · simp only [Instr.fill, hpl _ _ hp]
            rw [if_neg (by simp only [hvs]; simp; simp at hlen; omega)]
            exact k1
          · have e1 := k5 b
            rw [hz, hfold, Nat.add_zero] at e1
            have e2 := obs_setCells_le b x.cells v.cells.toList cs vs.toList off m1
            have e3 := ob3_obs (v := v) b hnt
            simp only [List.map_cons, obE]; omega
        · cases hf

theorem zip_get {os : List Nat} {xs : List PV} {i : Nat} {p : Nat × PV} (h : (os.zip xs)[i]? = some p) : os[i]? = some p.1 ∧ xs[i]? = some p.2 := by
  rw [List.getElem?_zip_eq_some] at h; exact h

/-- The parts of an aggregate, in memory. -/
theorem parts_ok (hs : Sim G B e st a.tmps.toList w) {ps : Array (Nat × Operand)} {xs : List PV} (hx : pargs (peval e) (ps.toList.map (·.2)) = some xs) :
    ((ps.toList.map (·.1)).zip xs).length = (ps.toList.map fun p => (p.1, a.eval p.2)).length ∧
    ∀ (i : Nat) p q, ((ps.toList.map (·.1)).zip xs)[i]? = some p → (ps.toList.map fun p => (p.1, a.eval p.2))[i]? = some q → p.1 = q.1 ∧ VRel G B p.2 q.2 ∧ O3 G w p.2 q.2 := by
  obtain ⟨h1, h2⟩ := pargs_spec hx
  refine ⟨by simp at h1; simp [h1], fun i p q hp hq => ?_⟩
  obtain ⟨k1, k2⟩ := zip_get hp
  rw [List.getElem?_map] at k1 hq
  obtain ⟨r, hr, hr1⟩ := Option.map_eq_some_iff.1 k1
  rw [hr] at hq
  simp at hq; subst hq
  have := h2 i r.2 p.2 (by rw [List.getElem?_map, hr]; rfl) k2
  exact ⟨hr1.symm, eval_rel hs this⟩
end
end Go.Sim
/- Operations, eighth part: build, buildSlice. -/
namespace Go.Sim
open PV

section
variable {P : Program} {G : Gh} {B : List Loc} {e : Env} {st : St} {tm : List Value} {w : World} {x y z : PV} {v u : Value}
variable {h : Hint} {fresh : Bool} {C : Oracle} {a : Act} {o : Oper} {st' : St}

theorem zero_facts {cs : List PV} {zv : Value} (hl : cs.length = zv.cells.toList.length) (hz : ∀ (j : Nat) x v, cs[j]? = some x → zv.cells.toList[j]? = some v → ofVal1 v = some x) :
    AllC G B cs zv.cells.toList ∧ (∀ v ∈ zv.cells.toList, one v = true) ∧ Os G w cs zv.cells.toList ∧ (∀ b, obs b cs zv.cells.toList = 0) ∧ ∀ c ∈ cs, store1 c = true ∧ (dem1 c).plain1 = true := by
  refine ⟨⟨hl, fun i x y hx hy => (ofVal1_rel (w := w) (hz i x y hx hy)).1⟩, fun v hv => ?_, fun i x v hx hv => (ofVal1_rel (G := G) (B := B) (w := w) (hz i x v hx hv)).2.2.1, fun b => obs_zero fun i x v hx hv => (ofVal1_rel (G := G) (B := B) (w := w) (hz i x v hx hv)).2.1 b, fun c hc => ?_⟩
  · obtain ⟨j, hj⟩ := List.getElem?_of_mem hv
    have hjl := (List.getElem?_eq_some_iff.1 hj).1
    exact (ofVal1_rel (G := G) (B := B) (w := w) (hz j _ v (List.getElem?_eq_getElem (by omega)) hj)).2.2.2.2.2.2.2.1
  · obtain ⟨j, hj⟩ := List.getElem?_of_mem hc
    have hjl := (List.getElem?_eq_some_iff.1 hj).1
    have := ofVal1_rel (G := G) (B := B) (w := w) (hz j c _ hj (List.getElem?_eq_getElem (by omega)))
    exact ⟨this.2.2.2.2.2.2.2.2.1, this.2.2.2.2.2.2.2.2.2⟩

theorem does_build (hs : Sim G B e st a.tmps.toList w) {t : TypeId} {ps : Array (Nat × Operand)} (ho : o.op = .build t ps) (hv : osem P C h fresh o (peval e) st = some (x, st')) : Goal P h G B e st a w o x st' := by
  simp only [osem, ho] at hv
  split at hv
  · cases hv
  · rename_i hok
    have hok : okTake (ps.toList.map (·.2)) = true := by simpa using hok
    obtain ⟨xs, hxs, hv1⟩ := Option.bind_eq_some_iff.1 hv
    obtain ⟨y, hy, hv2⟩ := Option.map_eq_some_iff.1 hv1
    simp only [Prod.mk.injEq] at hv2; obtain ⟨rfl, rfl⟩ := hv2
    clear hv hv1
    obtain ⟨p1, p2⟩ := parts_ok hs hxs
    obtain ⟨n1, n2⟩ := hs.takeMany hxs hok
    have hsh : sheds h o = (ps.toList.map (·.2)).flatMap tmpOf := by simp only [sheds, ho]
    have hxl := (pargs_spec hxs).1
    have hmap1 : (((ps.toList.map (·.1)).zip xs).map (·.2)) = xs := by
      rw [List.map_snd_zip]
      simp at hxl ⊢; omega
    have hmap2 : ((ps.toList.map fun p => (p.1, a.eval p.2)).map (·.2)) = (ps.toList.map (·.2)).map a.eval := by simp
    unfold pbuild at hy
    obtain ⟨zc, hzc, hy1⟩ := Option.bind_eq_some_iff.1 hy
    clear hy
    obtain ⟨i, zv, hi, hz, z1, z2⟩ := zeroCellsOf_ok hzc
    obtain ⟨f1, f2, f3, f4, f5⟩ := zero_facts (G := G) (B := B) (w := w) z1 z2
    have fin : ∀ cs' (vs' : Array Value), P.built t (ps.toList.map fun p => (p.1, a.eval p.2)) = some vs' → AllC G B cs' vs'.toList → Os G w cs' vs'.toList → (∀ b, obs b cs' vs'.toList ≤ obs b zc zv.cells.toList + obE b (((ps.toList.map (·.1)).zip xs).map (·.2)) ((ps.toList.map fun p => (p.1, a.eval p.2)).map (·.2))) → Goal P h G B e st a w o (.agg cs') st := by
      intro cs' vs' k1 k2 k4 k5
      refine Does.value (cv := .agg vs') (w' := w) ?_ ⟨G, B, ?_, Ble.refl _⟩
      · have := run_build (P := P) w t (ps.map fun (i, x) => (i, a.eval x)) vs' (by simpa using k1)
        simp only [execOp, ho, Sem.run_bind, this]; rfl
      · rw [hsh]
        have hcnt : ∀ b, ob3 b (.agg cs') (.agg vs') + obE b (shed e ((ps.toList.map (·.2)).flatMap tmpOf)) a.tmps.toList ≤ obE b e a.tmps.toList := fun b => by
          have q1 := n2 b
          have q2 := k5 b
          rw [hmap1, hmap2, f4 b] at q2
          have q3 : ob3 b (.agg cs') (.agg vs') = obs b cs' vs'.toList := rfl
          omega
        refine Step.same (n1.push (x := .agg cs') (v := .agg vs') ⟨vs', rfl, by simpa using k2.1, fun j p q hp hq => k2.2 j p q hp (by simpa using hq)⟩ k4 fun b => ?_) fun b => ?_
        · have := hcnt b; have := hs.uniq b; omega
        · have := hcnt b; simp only [obE]; omega
    split at hy1
    · rename_i fs hu
      obtain ⟨places, hpl, hy2⟩ := Option.bind_eq_some_iff.1 hy1
      obtain ⟨cs', hcs', rfl⟩ := Option.map_eq_some_iff.1 hy2
      obtain ⟨vs', k1, k2, k3, k4, k5⟩ := fill_ok (place := fun i => places.toArray[i]?) (fun i p hp => by simpa using hp) p1 p2 f1 f2 f3 hcs'
      exact fin cs' vs' (by simp only [Program.built, hi, hu, hz, hpl]; exact k1) k2 k4 k5
    · rename_i n el hu
      obtain ⟨j, hj, hy2⟩ := Option.bind_eq_some_iff.1 hy1
      obtain ⟨cs', hcs', rfl⟩ := Option.map_eq_some_iff.1 hy2
      obtain ⟨vs', k1, k2, k3, k4, k5⟩ := fill_ok (place := fun i => some (i * j.size, j.size)) (fun i p hp => hp) p1 p2 f1 f2 f3 hcs'
      exact fin cs' vs' (by simp only [Program.built, hi, hu, hz, hj]; exact k1) k2 k4 k5
    · cases hy1

theorem replicate_flatten_get {α : Type} {n : Nat} {zs : List α} (i : Nat) (hi : i < n * zs.length) : (List.replicate n zs).flatten[i]? = zs[i % zs.length]? := by
  induction n generalizing i with
  | zero => simp at hi
  | succ n ih =>
    rw [List.replicate_succ, List.flatten_cons, List.getElem?_append]
    have hz : 0 < zs.length := by
      rcases Nat.eq_zero_or_pos zs.length with h0 | h0
      · rw [h0] at hi; simp at hi
      · exact h0
    split
    · rename_i hlt; rw [Nat.mod_eq_of_lt hlt]
    · rename_i hge
      have hge : zs.length ≤ i := by omega
      rw [ih _ (by rw [Nat.add_mul] at hi; omega), ← Nat.mod_eq_sub_mod hge]
theorem length_replicate_flatten {α : Type} (n : Nat) (zs : List α) : (List.replicate n zs).flatten.length = n * zs.length := by
  induction n with
  | zero => simp
  | succ n ih => rw [List.replicate_succ, List.flatten_cons, List.length_append, ih, Nat.add_mul]; omega

theorem zeroRow_toList (n : Nat) (zs : Array Value) (hz : 0 < zs.size) : ((Array.range (n * zs.size)).map (fun i => zs[i % zs.size]!)).toList = (List.replicate n zs.toList).flatten := by
  apply List.ext_getElem?
  intro i
  by_cases hi : i < n * zs.size
  · rw [replicate_flatten_get i (by simpa using hi)]
    have hm : i % zs.size < zs.size := Nat.mod_lt _ hz
    simp [hi, hm]
  · rw [List.getElem?_eq_none (by simpa using hi), List.getElem?_eq_none (by rw [length_replicate_flatten]; simpa using hi)]

theorem chunks_spec {ag : Bool} {sz : Nat} (hsz : sz ≠ 0) (hag : ag = true ∨ sz = 1) : ∀ (n : Nat) (cs : List PV), cs.length = n * sz → (∀ c ∈ cs, c.cells = [c]) →
    (chunks ag sz n cs).length = n ∧ (chunks ag sz n cs).flatMap cells = cs ∧ ∀ x ∈ chunks ag sz n cs, x.cells.length = sz
  | 0, cs, hl, _ => by
    simp at hl; subst hl; simp [chunks]
  | n + 1, cs, hl, hc => by
    rw [Nat.add_mul] at hl
    obtain ⟨h1, h2, h3⟩ := chunks_spec hsz hag n (cs.drop sz) (by simp; omega) (fun c hcc => hc c (List.mem_of_mem_drop hcc))
    have key : ∀ y : PV, y.cells = cs.take sz → (y :: chunks ag sz n (cs.drop sz)).length = n + 1 ∧ (y :: chunks ag sz n (cs.drop sz)).flatMap cells = cs ∧ ∀ x ∈ y :: chunks ag sz n (cs.drop sz), x.cells.length = sz := by
      intro y hy
      refine ⟨by simp [h1], by rw [List.flatMap_cons, h2, hy, List.take_append_drop], fun x hx => ?_⟩
      rcases List.mem_cons.1 hx with rfl | hx
      · rw [hy]; simp; omega
      · exact h3 x hx
    cases ag with
    | true => exact key _ rfl
    | false =>
      have hs1 : sz = 1 := by simpa using hag
      subst hs1
      simp only [chunks]
      refine key _ ?_
      cases cs with
      | nil => simp at hl
      | cons c cs => simp [hc c (by simp)]

theorem plain1_scalar (hx : x.plain1 = true) : x.cells = [x] ∧ dem1 x = x := by
  cases x <;> simp [plain1] at hx <;> first | exact ⟨rfl, rfl⟩ | (subst hx; exact ⟨rfl, rfl⟩)
end
end Go.Sim
/- Operations, ninth part: slices that are made. -/
namespace Go.Sim
open PV

section
variable {P : Program} {G : Gh} {B : List Loc} {e : Env} {st : St} {tm : List Value} {w : World} {x y z : PV} {v u : Value}
variable {h : Hint} {fresh : Bool} {C : Oracle} {a : Act} {o : Oper} {st' : St}

theorem Step.ofNewRow {w' : World} {e1 : Env} {sz cap : Nat} {own : Bool} {xs : List PV} (h0 : Sim G B e st tm w) (hs : Sim G B e1 st tm w) (hu : ∀ b, obE b e1 tm ≤ obE b e tm)
    (c : Array Value) (el : TypeId) (fr : Nat × Nat) (hh : w'.heap = w.heap.push (.cells c el fr)) (h1 : w'.os = w.os) (h2 : w'.tape = w.tape) (h3 : w'.output = w.output)
    (hxs : ∀ x ∈ xs, x.cells.length = sz) (hpl : ∀ x ∈ xs.flatMap cells, x.plain1 = true) (hl : (xs.flatMap cells).length ≤ c.size)
    (hc : ∀ (i : Nat) x v, (xs.flatMap cells)[i]? = some x → c[i]? = some v → one v = true ∧ CRel G [] x v) (hn : xs.length ≤ cap) (hcap : cap ≤ maxLen)
    (hown : own = true → fr = (0, 0) ∧ c.size = cap * sz ∧ sz ≠ 0) :
    Step G B e st tm w (updG G w.heap.size (xs.flatMap cells)) B (.sl sz false own xs :: e1) st (.slice (some ⟨w.heap.size, 0, none⟩) xs.length cap :: tm) w' := by
  obtain ⟨k1, k2, k3⟩ := hs.newRow c el fr hh h1 h2 h3 (xs.flatMap cells) hl fun i x hx => by
    have hi := (List.getElem?_eq_some_iff.1 hx).1
    obtain ⟨v, hv⟩ : ∃ v, c[i]? = some v := ⟨_, Array.getElem?_eq_getElem (by omega)⟩
    obtain ⟨q1, q2⟩ := hc i x v hx hv
    exact ⟨hpl x (List.mem_of_getElem? hx), v, hv, q1, q2⟩
  have hG : updG G w.heap.size (xs.flatMap cells) w.heap.size = some (xs.flatMap cells) := by simp [updG]
  have hw' : w'.heap[w.heap.size]? = some (.cells c el fr) := by rw [hh]; simp
  have hfresh : ∀ b, 0 < ob3 b (.sl sz false own xs) (.slice (some ⟨w.heap.size, 0, none⟩) xs.length cap) → b = w.heap.size := fun b hb => by
    cases own <;> simp [ob3, cells, Value.cells, obs, ob] at hb
    split at hb
    · rename_i hh; exact hh.symm
    · simp at hb
  have hold : ∀ b, w.heap.size ≤ b → obE b e1 tm + obB b st (B.map (cellsAt w)) = 0 := fun b hb => by
    apply hs.notOwned
    cases hq : G b with
    | none => rfl
    | some pc => have := h0.rowLt hq; omega
  have hle1 : ∀ b, ob3 b (.sl sz false own xs) (.slice (some ⟨w.heap.size, 0, none⟩) xs.length cap) ≤ 1 := fun b => by
    cases own <;> simp [ob3, cells, Value.cells, obs, ob]
    split <;> omega
  have hv : VRel (updG G w.heap.size (xs.flatMap cells)) B (.sl sz false own xs) (.slice (some ⟨w.heap.size, 0, none⟩) xs.length cap) :=
    ⟨some ⟨w.heap.size, 0, none⟩, cap, rfl, hn, hcap, hxs, rfl, rfl, fun _ => ⟨_, hG, fun i x hx => by simpa using hx⟩⟩
  have ho : O3 (updG G w.heap.size (xs.flatMap cells)) w' (.sl sz false own xs) (.slice (some ⟨w.heap.size, 0, none⟩) xs.length cap) := by
    intro i y u hy hu
    cases i with
    | zero =>
      simp [cells, Value.cells] at hy hu
      subst hy; subst hu
      cases own with
      | false => trivial
      | true =>
        obtain ⟨rfl, q2, q3⟩ := hown rfl
        exact ⟨rfl, rfl, q3, c, el, _, hw', q2, hG, length_flatMap_cells hxs⟩
    | succ i => simp [cells] at hy
  have k4 := k1.push hv ho fun b => by
    rw [k3]
    by_cases hb : 0 < ob3 b (.sl sz false own xs) (.slice (some ⟨w.heap.size, 0, none⟩) xs.length cap)
    · have := hold b (by have := hfresh b hb; omega)
      have := hle1 b
      omega
    · have := hs.uniq b; omega
  refine Step.fresh h0 k4 k2 (fun b hb => ?_) fun l hl' => .inr hl'
  rw [k3]
  have q1 := hu b
  have : ¬ 0 < ob3 b (.sl sz false own xs) (.slice (some ⟨w.heap.size, 0, none⟩) xs.length cap) := fun hp => by have := hfresh b hp; omega
  simp only [obE]; omega

theorem elemOf_ok {t el : TypeId} (hel : elemOf P t = some el) : P.underlying t = some (.slice el) := by
  unfold elemOf at hel; split at hel
  · rename_i hh; cases hel; exact hh
  · cases hel

theorem run_buildSlice_any {t el : TypeId} {len : Nat} {parts : Array (Nat × Value)} {cells : Array Value} {j : TypeInfo} {zv : Value} (hu : P.underlying t = some (.slice el)) (hj : P.info? el = some j) (hz : j.zero = some zv)
    (hsmall : ¬ len * j.size > 2 ^ 24) (hf : ∀ zs : Array Value, zs.toList = (List.replicate len zv.cells.toList).flatten → Instr.fill (fun i => some (i * j.size, j.size)) zs parts.toList = some cells) (hzs : zv.cells.size = j.size) (hsz : j.size ≠ 0) :
    (Instr.buildSlice t len parts).run P w = .ok (.slice (some ⟨w.heap.size, 0, none⟩) len len) { w with heap := w.heap.push (.cells cells el) } := by
  by_cases hp : len * j.size = 0
  · have hl0 : len = 0 := by
      rcases Nat.mul_eq_zero.1 hp with h0 | h0
      · exact h0
      · exact (hsz h0).elim
    subst hl0
    have := hf #[] (by simp)
    simp [Instr.buildSlice, run_underlying hu, sizeOf, typeInfo, hj, this, newRow, show Array.range 0 = #[] from rfl]
  · have := hf ((Array.range (len * j.size)).map (zv.cells[· % zv.cells.size]!)) (by rw [← hzs]; exact zeroRow_toList len zv.cells (by omega))
    simp [Instr.buildSlice, run_underlying hu, sizeOf, typeInfo, zeroValue, hj, hz, hsmall, hp, this, newRow]

theorem plain_noB {cs : List PV} (hp : ∀ c ∈ cs, (dem1 c).plain1 = true) {vs : List Value} (hc : AllC G B cs vs) (h1 : ∀ v ∈ vs, one v = true) :
    ∀ (i : Nat) x v, (cs.map dem1)[i]? = some x → vs[i]? = some v → one v = true ∧ CRel G [] x v := by
  intro i x v hx hv
  rw [List.getElem?_map] at hx
  obtain ⟨x0, hx0, rfl⟩ := Option.map_eq_some_iff.1 hx
  exact ⟨h1 v (List.mem_of_getElem? hv), (CRel_dem1.2 (hc.2 i x0 v hx0 hv)).plain (hp x0 (List.mem_of_getElem? hx0))⟩

theorem zero_allC {n : Nat} {zc : List PV} {zv : List Value} (hl : zc.length = zv.length) (hc : AllC G B zc zv) : AllC G B (List.replicate n zc).flatten (List.replicate n zv).flatten := by
  refine ⟨by rw [length_replicate_flatten, length_replicate_flatten, hl], fun i x v hx hv => ?_⟩
  have h1 := (List.getElem?_eq_some_iff.1 hx).1
  rw [length_replicate_flatten] at h1
  rw [replicate_flatten_get i h1] at hx
  rw [replicate_flatten_get i (by rw [← hl]; exact h1), ← hl] at hv
  exact hc.2 _ x v hx hv

theorem mem_replicate_flatten {α : Type} {n : Nat} {zs : List α} {p : α} (hp : p ∈ (List.replicate n zs).flatten) : p ∈ zs := by
  obtain ⟨l, hl, hp⟩ := List.mem_flatten.1 hp
  rw [(List.mem_replicate.1 hl).2] at hp; exact hp

theorem dem_parts (hs : Sim G B e st a.tmps.toList w) {ps : Array (Nat × Operand)} {xs : List PV} (hx : pargs (peval e) (ps.toList.map (·.2)) = some xs) :
    let parts := ((ps.toList.map (·.1)).zip xs).map fun p => (p.1, p.2.dem)
    parts.length = (ps.toList.map fun p => (p.1, a.eval p.2)).length ∧ ∀ (i : Nat) p q, parts[i]? = some p → (ps.toList.map fun p => (p.1, a.eval p.2))[i]? = some q → p.1 = q.1 ∧ VRel G B p.2 q.2 ∧ O3 G w p.2 q.2 := by
  obtain ⟨p1, p2⟩ := parts_ok hs hx
  refine ⟨by simpa using p1, fun i p q hp hq => ?_⟩
  rw [List.getElem?_map] at hp
  obtain ⟨r, hr, rfl⟩ := Option.map_eq_some_iff.1 hp
  obtain ⟨q1, q2, _⟩ := p2 i r q hr hq
  exact ⟨q1, q2.dem, O3_dem _ _ _ _⟩

theorem flatMap_scalars : ∀ {ys : List PV}, (∀ y ∈ ys, y.cells = [y]) → ys.flatMap cells = ys
  | [], _ => rfl
  | y :: ys, hy => by rw [List.flatMap_cons, hy y (by simp), flatMap_scalars fun z hz => hy z (by simp [hz])]; rfl

theorem does_buildSlice (hs : Sim G B e st a.tmps.toList w) {t : TypeId} {n : Nat} {ps : Array (Nat × Operand)} (ho : o.op = .buildSlice t n ps) (hv : osem P C h fresh o (peval e) st = some (x, st')) : Goal P h G B e st a w o x st' := by
  simp only [osem, ho] at hv
  obtain ⟨xs, hxs, hv1⟩ := Option.bind_eq_some_iff.1 hv
  obtain ⟨y, hy, hv2⟩ := Option.bind_eq_some_iff.1 hv1
  clear hv hv1
  unfold pbuildSlice at hy
  obtain ⟨el, hel, hy1⟩ := Option.bind_eq_some_iff.1 hy
  obtain ⟨j, hj, hy2⟩ := Option.bind_eq_some_iff.1 hy1
  obtain ⟨ag, hag, hy3⟩ := Option.bind_eq_some_iff.1 hy2
  obtain ⟨zc, hzc, hy4⟩ := Option.bind_eq_some_iff.1 hy3
  clear hy hy1 hy2 hy3
  have hu := elemOf_ok hel
  obtain ⟨i, zv, hi, hz, z1, z2⟩ := zeroCellsOf_ok hzc
  rw [hj] at hi; cases hi
  split at hy4
  · cases hy4
  · rename_i hcond
    have c1 : j.size ≠ 0 := fun hh => hcond (.inl hh)
    have c2 : ag = true ∨ j.size = 1 := by
      cases ag
      · exact .inr (Decidable.byContradiction fun hh => hcond (.inr (.inl ⟨rfl, hh⟩)))
      · exact .inl rfl
    have c3 : ¬ n * j.size > 2 ^ 24 := fun hh => hcond (.inr (.inr (.inl hh)))
    have c4 : n ≤ maxLen := Nat.le_of_not_lt fun hh => hcond (.inr (.inr (.inr (.inl hh))))
    have c5 : zc.length = j.size := Decidable.byContradiction fun hh => hcond (.inr (.inr (.inr (.inr hh))))
    obtain ⟨cs, hcs, hy5⟩ := Option.bind_eq_some_iff.1 hy4
    clear hy4
    split at hy5
    · rename_i hpl
      cases hy5
      obtain ⟨f1, f2, f3, f4, f5⟩ := zero_facts (G := G) (B := B) (w := w) z1 z2
      obtain ⟨p1, p2⟩ := dem_parts hs hxs
      have hzs : zv.cells.size = j.size := by simp at z1; omega
      have hpl' : ∀ c ∈ cs, (dem1 c).plain1 = true := fun c hc => List.all_eq_true.1 hpl c hc
      have hlen0 : (List.replicate n zc).flatten.length = n * j.size := by rw [length_replicate_flatten, c5]
      have hinit : AllC G B (List.replicate n zc).flatten (List.replicate n zv.cells.toList).flatten := zero_allC z1 f1
      obtain ⟨vs', k1, k2, k3, k4, k5⟩ := fill_ok (place := fun i => some (i * j.size, j.size)) (vs := (List.replicate n zv.cells.toList).flatten.toArray) (fun i p hp => hp) p1 p2 (by simpa using hinit)
        (by intro v hv; exact f2 v (mem_replicate_flatten (by simpa using hv)))
        (by
          intro i p q hp hq
          have hp' := List.mem_of_getElem? hp
          have h1 := (List.getElem?_eq_some_iff.1 hp).1
          rw [length_replicate_flatten] at h1
          rw [replicate_flatten_get i h1] at hp
          rw [replicate_flatten_get i (by rw [← z1]; exact h1), ← z1] at hq
          exact f3 _ p q hp hq) hcs
      have hcsl : cs.length = n * j.size := by
        have : ∀ {parts : List (Nat × PV)} {a b : List PV}, fillCells (fun i => some (i * j.size, j.size)) a parts = some b → b.length = a.length := by
          intro parts
          induction parts with
          | nil => intro a b hh; simp [fillCells] at hh; subst hh; rfl
          | cons p parts ih =>
            intro a b hh
            obtain ⟨p0, p1⟩ := p
            simp only [fillCells] at hh
            split at hh
            · rw [ih hh, length_setCells]
            · cases hh
        rw [this hcs, hlen0]
      have hvl : vs'.size = n * j.size := by have := k2.1; simp at this; omega
      have hrun : (Instr.buildSlice t n (ps.map fun (i, x) => (i, a.eval x))).run P w = .ok (.slice (some ⟨w.heap.size, 0, none⟩) n n) { w with heap := w.heap.push (.cells vs' el) } := by
        refine run_buildSlice_any hu hj hz c3 (fun zs hzs' => ?_) hzs c1
        have : zs = (List.replicate n zv.cells.toList).flatten.toArray := by
          apply Array.ext'; rw [hzs']
        rw [this]
        simpa using k1
      have hchunk := chunks_spec c1 c2 n (cs.map dem1) (by simpa using hcsl) (fun c hc => by
        obtain ⟨c0, hc0, rfl⟩ := List.mem_map.1 hc
        exact (plain1_scalar (hpl' c0 hc0)).1)
      obtain ⟨q1, q2, q3⟩ := hchunk
      have hnb := plain_noB hpl' k2 k3
      split at hv2
      · split at hv2
        · rename_i hwr sz nl own ys heq
          split at hv2
          · rename_i hplain
            cases hv2
            injection heq with e1 e2 e3 e4
            subst e4
            rw [e1] at hplain q1 q2 q3
            have hys : chunks ag 1 n (cs.map dem1) = cs.map dem1 := by
              conv => rhs; rw [← q2]
              exact (flatMap_scalars fun y hy' => (plain1_scalar (List.all_eq_true.1 hplain y hy')).1).symm
            have hcl : (chunks ag j.size n (cs.map dem1)).length = cs.length := by rw [e1, hys, List.length_map]
            have hcn : cs.length = n := by rw [hcsl, e1, Nat.mul_one]
            refine Does.value (cv := .slice (some ⟨w.heap.size, 0, none⟩) n n) (w' := { w with heap := w.heap.push (.cells vs' el) }) (by simp only [execOp, ho, Sem.run_bind, hrun]; rfl) ⟨G, B ++ [⟨w.heap.size, 0, (chunks ag j.size n (cs.map dem1)).length⟩], ?_, Ble.append _ _⟩
            simp only [sheds, ho, shed]
            refine Step.ofNewBox hs hs vs' el (0, 0) rfl rfl rfl rfl (by simp) (by rw [hcl, hvl, e1]; omega) (fun i x v hx hv => ?_) ?_ (fun b => ?_) (fun B' hB' => ⟨_, n, hB', by rw [hcl, hcn], by omega, c4, by rw [hcl]; simp, fun _ => by rw [hcl, hcn]⟩) rfl
            · rw [e1, hys] at hx
              obtain ⟨r1, r2⟩ := hnb i x v hx (by simpa using hv)
              refine ⟨r1, ?_⟩
              obtain ⟨c0, hc0, rfl⟩ := List.mem_map.1 (List.mem_of_getElem? hx)
              exact r2.plain (hpl' c0 hc0)
            · rw [e1, hys]; exact Os_dem1 _ _ _ _
            · rw [e1, hys, obs_dem1]; omega
          · cases hv2
        · cases hv2
      · cases hv2
        have := Step.ofNewRow (own := true) (sz := j.size) (cap := n) (w' := { w with heap := w.heap.push (.cells vs' el) }) (xs := chunks ag j.size n (cs.map dem1)) hs hs (fun b => Nat.le_refl _) vs' el (0, 0) rfl rfl rfl rfl q3
          (by rw [q2]; intro c hc; obtain ⟨c0, hc0, rfl⟩ := List.mem_map.1 hc; exact hpl' c0 hc0) (by rw [q2, hvl, List.length_map, hcsl]; exact Nat.le_refl _) (by rw [q2]; intro i x v hx hv; exact hnb i x v hx (by simpa using hv)) (by omega) c4 (fun _ => ⟨rfl, hvl, c1⟩)
        rw [q1] at this
        exact Does.value (cv := .slice (some ⟨w.heap.size, 0, none⟩) n n) (w' := { w with heap := w.heap.push (.cells vs' el) }) (by simp only [execOp, ho, Sem.run_bind, hrun]; rfl) ⟨_, B, by simp only [sheds, ho, shed]; exact this, Ble.refl _⟩
    · cases hy5
end
end Go.Sim
