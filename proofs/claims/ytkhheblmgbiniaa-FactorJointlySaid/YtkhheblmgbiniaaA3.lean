/- What an operation does to abstract values. -/
import Derived.Test.YtkhheblmgbiniaaA2
namespace Go.Sy
open Go Go.RowKit

/-! ### Types -/
def esz (P : Program) (t : TypeId) : Nat := match P.underlying t with | some (.slice e) => P.cellsOf e | _ => 0
def ebytes (P : Program) (t : TypeId) : Nat := match P.underlying t with | some (.slice e) => P.bytesOf e | _ => 0
def aggT (P : Program) (t : TypeId) : Option Bool := match P.underlying t with | some (.struct _) | some (.array _ _) => some true | some _ => some false | none => none
def slT (P : Program) (t : TypeId) : Bool := match P.underlying t with | some (.slice e) => (P.info? e).isSome && decide (0 < P.cellsOf e) | _ => false
def elT (P : Program) (t : TypeId) : TypeId := match P.underlying t with | some (.slice e) => e | _ => 0
def okT (P : Program) (t : TypeId) : Bool := (P.info? t).isSome
def foff (P : Program) (t : TypeId) (f : Nat) : Option Nat := match P.underlying t with
  | some (.struct fs) => match fs[f]? with
    | some fd => if (P.info? fd.type).isSome ∧ P.cellsOf fd.type ≠ 0 then some fd.offset else none
    | none => none
  | _ => none
def cellTys (P : Program) : Nat → TypeId → List TypeId
  | 0, _ => []
  | n + 1, t => match P.underlying t with
    | some (.struct fs) => fs.toList.flatMap fun f => cellTys P n f.type
    | some (.array k e) => (List.replicate k (cellTys P n e)).flatten
    | _ => [t]

def cst (P : Program) (t : TypeId) : Value → AV
  | .slice none 0 0 => .list (esz P t) [] .nil
  | .func (.func f) fs cs => if fs.isEmpty && cs.isEmpty then .clo f [] else .any
  | v => if v.oneCell' then .v v else .any

def zvals (P : Program) (t : TypeId) : Option (List Value) :=
  match (P.info? t).bind (·.zero) with
  | some z => if z.cells.toList.all (·.oneCell') then some z.cells.toList else none
  | none => none
def zav (P : Program) (t : TypeId) : Option (List AV) := (zvals P t).map fun vs => vs.mapIdx fun i v => cst P ((cellTys P 8 t).getD i 0) v

def cells? : AV → Option (List AV)
  | .agg l => some l
  | .tup _ | .any => none
  | a => some [a]

def rdAV (P : Program) (t : TypeId) (l : List AV) : Option AV :=
  match aggT P t with
  | some true => if P.cellsOf t ≤ l.length then some (.agg (l.take (P.cellsOf t))) else none
  | some false => l.head?
  | none => none

def fgt : AV → AV
  | .list sz xs _ => .list sz xs .no
  | a => a

/-- No key of the call's own in it. -/
def clean : AV → Bool
  | .box _ _ | .sl _ _ _ | .tup _ | .agg _ | .any => false
  | .list _ _ .no => true
  | .list _ _ _ => false
  | _ => true

def St.o (P : Program) (s : St) (t : TypeId) : Operand → AV
  | .tmp x => s.t x
  | .const v => cst P t v
  | .func f => .clo f []
  | .global _ => .any

structure Eff where
  v : AV
  nb : Option (List AV) := none
  nt : Nat := 0
  kl : Option Key := none
  st : List (Key × List AV) := []

def crt (d g n : Nat) (f : Key → Bool) : Key → Bool := fun k => if k.1 = d ∧ k.2.1 = g ∧ k.2.2 < n then false else f k
def sto (f : Key → Option Box) : List (Key × List AV) → Key → Option Box
  | [] => f
  | (k, l) :: r => sto (upd f k (some ⟨l, false⟩)) r

def St.app (s : St) (d : Option Nat) (e : Eff) : St :=
  match d with
  | none => { s with b := sto s.b e.st }
  | some d =>
    { t := upd s.t d e.v
      b := match e.nb with | none => sto s.b e.st | some l => upd (sto s.b e.st) (d, s.g d, 0) (some ⟨l, false⟩)
      d := crt d (s.g d) e.nt (match e.kl with | none => s.d | some k => upd s.d k true)
      g := if e.nb.isSome || decide (0 < e.nt) then upd s.g d (s.g d + 1) else s.g }

/-! ### Build -/
def places (P : Program) (t : TypeId) : Option (List (Nat × Nat)) := match P.underlying t with
  | some (.struct fs) => fs.toList.mapM fun f => (P.info? f.type).map fun i => (f.offset, i.size)
  | _ => none
def ptype (P : Program) (t : TypeId) (i : Nat) : TypeId := match P.underlying t with
  | some (.struct fs) => match fs[i]? with | some f => f.type | none => 0
  | some (.slice e) => e
  | _ => 0
def fillAV (pl : Nat → Option (Nat × Nat)) (l : List AV) : List (Nat × AV) → Option (List AV)
  | [] => some l
  | (i, x) :: r => match pl i, cells? x with
    | some (off, n), some c => if c.length = n ∧ off + n ≤ l.length then fillAV pl (l.take off ++ c ++ l.drop (off + n)) r else none
    | _, _ => none

def partsAV (n : Nat) : Nat → List (Nat × AV) → Option (List (List AV))
  | _, [] => some []
  | k, (i, x) :: r => match cells? x with
    | some c => if i = k ∧ c.length = n ∧ (c.all fun x => clean (fgt x)) = true then (partsAV n (k + 1) r).map ((c.map fgt) :: ·) else none
    | none => none

/-! ### Numbers -/
/-- A struct of whole numbers alone, one cell each, in order. -/
def intStruct (P : Program) (t : TypeId) : Bool := match P.underlying t with
  | some (.struct fs) => !P.stoodInHeld t && !P.eqGuardType P.depth t && P.cellsOf t == fs.size &&
      fs.toList.zipIdx.all fun (f, i) => decide (f.name ≠ "_") && f.offset == i && (match P.underlying f.type with | some (.int .i64) => true | _ => false)
  | _ => false
def eqInts : List AV → List AV → Option Bool
  | [], [] => some true
  | .v (.int .i64 a) :: x, .v (.int .i64 b) :: y => (eqInts x y).map fun r => a == b && r
  | _, _ => none
def binAV (P : Program) (op : BinOp) (t : TypeId) : AV → AV → Option AV
  | .v (.int k a), .v (.int k' b) =>
    if k = k' then
      match op with
      | .add => some (.v (.int k (k.wrap (a + b))))
      | .sub => some (.v (.int k (k.wrap (a - b))))
      | .mul => some (.v (.int k (k.wrap (a * b))))
      | .quo => if b = 0 then none else some (.v (.int k (k.wrap (a.tdiv b))))
      | .rem => if b = 0 then none else some (.v (.int k (a.tmod b)))
      | .and => some (.v (.int k (k.wrap (BitVec.ofInt k.bits a &&& BitVec.ofInt k.bits b).toNat)))
      | .shr => if b < 0 then none else some (.v (.int k (a.fdiv (2 ^ min b.toNat k.bits))))
      | .eql => some (.v (.bool (a == b)))
      | .neq => some (.v (.bool (a != b)))
      | .lss => some (.v (.bool (decide (a < b))))
      | .leq => some (.v (.bool (decide (a ≤ b))))
      | .gtr => some (.v (.bool (decide (a > b))))
      | .geq => some (.v (.bool (decide (a ≥ b))))
      | _ => none
    else (match op with | .shr => if b < 0 then none else some (.v (.int k (a.fdiv (2 ^ min b.toNat k.bits)))) | _ => none)
  | .agg x, .agg y => if intStruct P t && decide (x.length = P.cellsOf t) && decide (y.length = P.cellsOf t) then
      (match op with | .eql => (eqInts x y).map fun b => .v (.bool b) | .neq => (eqInts x y).map fun b => .v (.bool (!b)) | _ => none) else none
  | .v (.bool a), .v (.bool b) =>
    match P.underlying t, op with
    | some .bool, .eql => some (.v (.bool (a == b)))
    | some .bool, .neq => some (.v (.bool (a != b)))
    | _, _ => none
  | _, _ => none

def idxAV (P : Program) (t : TypeId) : AV → AV → Option AV
  | .list sz xs _, .v (.int _ n) => if slT P t ∧ sz = esz P t ∧ 0 ≤ n ∧ n < xs.length then (xs[n.toNat]?).map .ptr else none
  | .sl k len sz, .v (.int _ n) => if slT P t ∧ sz = esz P t ∧ 0 ≤ n ∧ n < len then some (.box k (n.toNat * esz P t)) else none
  | .ptr l, .v (.int _ n) => match P.underlying t with
    | some (.array m e) => if (P.info? e).isSome ∧ 0 ≤ n ∧ n < m then some (.ptr (l.drop (n.toNat * P.cellsOf e))) else none
    | _ => none
  | _, _ => none

def tokOK (s : St) : Tok → Bool
  | .no => false
  | .nil => true
  | .own k => !s.d k
def tokKey : Tok → Option Key
  | .own k => some k
  | _ => none

def capAV (s : St) : List AV → Option (List AV)
  | [] => some []
  | .box k 0 :: r => match s.b k with | some ⟨l, true⟩ => if (l.all clean) = true then (capAV s r).map (.ptr l :: ·) else none | _ => none
  | .ptr l :: r => (capAV s r).map (.ptr l :: ·)
  | _ => none

/-- The functional operations: all but calls. -/
def ev (P : Program) (s : St) (o : Oper) : Option Eff :=
  let d := o.dst.getD 0
  let key : Key := (d, s.g d, 0)
  match o.op with
  | .move x | .assign x => some { v := s.o P o.type x }
  | .pick c a b => match s.o P 0 c with
    | .v (.bool c) => some { v := if c = true then s.o P o.type a else s.o P o.type b }
    | _ => none
  | .alloc t => (zav P t).map fun l => { v := .box key 0, nb := some l }
  | .box t x => (cells? (s.o P t x)).map fun l => { v := .box key 0, nb := some l }
  | .build t ps => match places P t, zav P t with
    | some pl, some z => (fillAV (pl.toArray[·]?) z (ps.toList.map fun p => (p.1, s.o P (ptype P t p.1) p.2))).map fun l => { v := .agg l }
    | _, _ => none
  | .buildSlice t n ps => if slT P t ∧ n = ps.size ∧ n * esz P t ≤ 2 ^ 24 ∧ (zvals P (elT P t)).map (·.length) = some (esz P t) then
      (partsAV (esz P t) 0 (ps.toList.map fun p => (p.1, s.o P (ptype P t p.1) p.2))).map fun l => { v := .list (esz P t) l (.own key), nt := 1 } else none
  | .load t x => match s.o P 0 x with
    | .box k off => match s.b k with
      | some B => if off < B.c.length then (rdAV P t (B.c.drop off)).map fun v => { v } else none
      | none => none
    | .ptr l => (rdAV P t l).map fun v => { v }
    | _ => none
  | .store t a x => match s.o P 0 a, cells? (s.o P t x) with
    | .box k off, some c => match s.b k with
      | some ⟨l, false⟩ => if okT P t ∧ c.length = P.cellsOf t ∧ off + c.length ≤ l.length then some { v := .any, st := [(k, l.take off ++ c ++ l.drop (off + c.length))] } else none
      | _ => none
    | _, _ => none
  | .nilCheck x => match s.o P 0 x with
    | .box k o => some { v := .box k o }
    | .ptr l => some { v := .ptr l }
    | .clo f l => some { v := .clo f l }
    | _ => none
  | .binOp op t x y _ => (binAV P op t (s.o P t x) (s.o P t y)).map fun v => { v }
  | .unOp op _ x => match op, s.o P 0 x with
    | .not, .v (.bool b) => some { v := .v (.bool (!b)) }
    | .neg, .v (.int k n) => some { v := .v (.int k (k.wrap (0 - n))) }
    | _, _ => none
  | .convert src dst x => match P.underlying src, P.underlying dst, s.o P src x with
    | some _, some (.int k), .v (.int _ n) => some { v := .v (.int k (k.wrap n)) }
    | _, _, _ => none
  | .fieldAddr t x f => match s.o P 0 x, foff P t f with
    | .box k off, some o => some { v := .box k (off + o) }
    | .ptr l, some o => some { v := .ptr (l.drop o) }
    | _, _ => none
  | .indexAddr t x i => (idxAV P t (s.o P t x) (s.o P 0 i)).map fun v => { v }
  | .extract x i => match s.o P 0 x with
    | .tup l => (l[i]?).map fun v => { v }
    | _ => none
  | .makeFunc (.func f) first caps => if first.isEmpty then (capAV s (caps.toList.map (s.o P 0))).map fun l => { v := .clo f l } else none
  | .makeSlice t x y => match s.o P 0 x, s.o P 0 y with
    | .v (.int .i64 n), .v (.int .i64 m) => if slT P t ∧ n = m ∧ 0 ≤ n ∧ n * ebytes P t ≤ 140737488355328 ∧ n ≤ 9223372036854775807 then
        match zav P (elT P t) with
        | some z => if z.length = esz P t then some { v := .sl key n.toNat (esz P t), nb := some (List.replicate n.toNat z).flatten } else none
        | none => none
      else none
    | _, _ => none
  | .slice t x none (some h) none => match s.o P t x, s.o P 0 h with
    | .list sz xs _, .v (.int _ n) => if slT P t ∧ sz = esz P t ∧ 0 ≤ n ∧ n ≤ xs.length then some { v := .list sz (xs.take n.toNat) .no } else none
    | _, _ => none
  | .call { callee := .builtin .len, args, argTypes } => match args.toList, argTypes.toList with
    | [x], [t] => if slT P t then (match s.o P t x with
      | .list _ xs _ => some { v := .v (.int .i64 xs.length) }
      | .sl _ n _ => some { v := .v (.int .i64 n) }
      | _ => none) else none
    | _, _ => none
  | .call { callee := .builtin .append, args, argTypes } => match args.toList, argTypes.toList with
    | [x, y], [t, t'] => match s.o P t x, s.o P t' y with
      | .list sz xs tk, .list sz' ys _ => if o.dst.isSome ∧ slT P t ∧ t = t' ∧ sz = esz P t ∧ sz' = sz ∧ tokOK s tk ∧ (xs.length + ys.length) * ebytes P t ≤ 140737488355328
          ∧ (zvals P (elT P t)).map (·.length) = some (esz P t) ∧ xs.length + ys.length ≤ 9223372036854775807 then
          some { v := .list sz (xs ++ ys) (.own key), nt := 1, kl := tokKey tk } else none
      | _, _ => none
    | _, _ => none
  | .call { callee := .builtin .max, args, .. } => match args.toList with
    | [x, y] => match s.o P 0 x, s.o P 0 y with
      | .v (.int k a), .v (.int _ b) => some { v := .v (.int k (if b > a then b else a)) }
      | _, _ => none
    | _ => none
  | .call { callee := .builtin .min, args, .. } => match args.toList with
    | [x, y] => match s.o P 0 x, s.o P 0 y with
      | .v (.int k a), .v (.int _ b) => some { v := .v (.int k (if b < a then b else a)) }
      | _, _ => none
    | _ => none
  | _ => none

end Go.Sy
