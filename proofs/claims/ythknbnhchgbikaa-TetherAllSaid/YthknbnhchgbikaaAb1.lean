/- Words for this claim: an evaluator of the program's functions, and what they come to. -/
import Derived.Orders
import Derived.LoopN
import Derived.Laws.Sem
import Derived.Laws.CopyRow
import Derived.ChangeKeysEq
import Derived.Laws.Tables
import GoSem.Extern.Table
import Derived.Laws.Externs
import Derived.Laws.MakeOwn
set_option linter.all false
namespace Go.Ab

/-- A place: a block that the caller handed in, or one of the call's own. -/
inductive Key where
  | o (i : Nat)
  | l (s : Nat)
  deriving DecidableEq

structure Loc where
  k : Key
  i : Nat
  o : Nat

inductive Cell where
  | int (k : IntKind) (n : Int)
  | bool (b : Bool)
  | ptr (p : Loc)
  | nilp
  | slc (k : Key) (z i n : Nat)
  | nils
  | fn (f : Nat) (cap : List Loc)
  | nilf
  | junk

inductive V where
  | c (x : Cell)
  | agg (cs : List Cell)
  | tup (vs : List V)

structure Blk where
  T : Nat
  sz : Nat
  own : Bool
  pl : Bool
  els : List (List Cell)

inductive Src where
  | t (i : Nat)
  | v (x : V)

inductive IOp where
  | mv (x : Src)
  | pick (c a b : Src)
  | new (T sz : Nat) (pl : Bool) (z : List Cell)
  | box (T sz : Nat) (pl : Bool) (x : Src)
  | build (z : List Cell) (ps : List (Nat × Nat × Src))
  | load (ag : Bool) (n : Nat) (a : Src)
  | store (n : Nat) (a x : Src)
  | bin (op : BinOp) (x y : Src)
  | eqa (neg g : Bool) (ks : List Bool) (x y : Src)
  | un (op : UnOp) (x : Src)
  | conv (k : IntKind) (x : Src)
  | field (ag : Bool) (off n : Nat) (x : Src)
  | faddr (off : Nat) (x : Src)
  | iaddr (sz : Nat) (x i : Src)
  | iaddrA (len sz : Nat) (x i : Src)
  | index (ag : Bool) (len sz : Nat) (x i : Src)
  | ext (i : Nat) (x : Src)
  | len (x : Src)
  | mm (mx : Bool) (x y : Src)
  | app (T sz bytes : Nat) (pl : Bool) (s x : Src)
  | bsl (T sz : Nat) (pl : Bool) (ps : List Src)
  | msl (T sz bytes : Nat) (pl : Bool) (z : List Cell) (n : Src)
  | sl (sz : Nat) (x : Src) (lo hi : Option Src)
  | fn (f : Nat) (cap : List Src)
  | nilchk (x : Src)
  | call (f : Nat) (args : List Src)
  | callv (f : Src) (args : List Src)
  | add64 (a b c : Src)
  | sub64 (a b c : Src)

structure IOper where
  d : Option Nat
  op : IOp
  g : Option (Nat × Bool) := none

/-- What an operation looks at. -/
def IOp.srcs : IOp → List Src
  | .mv x | .box _ _ _ x | .load _ _ x | .un _ x | .conv _ x | .field _ _ _ x | .faddr _ x | .ext _ x | .len x | .nilchk x | .msl _ _ _ _ _ x => [x]
  | .pick a b c | .add64 a b c | .sub64 a b c => [a, b, c]
  | .new .. => []
  | .build _ ps => ps.map (·.2.2)
  | .store _ a x | .bin _ a x | .eqa _ _ _ a x | .iaddr _ a x | .iaddrA _ _ a x | .index _ _ _ a x | .mm _ a x | .app _ _ _ _ a x => [a, x]
  | .bsl _ _ _ ps | .fn _ ps | .call _ ps => ps
  | .callv f ps => f :: ps
  | .sl _ x lo hi => x :: (lo.toList ++ hi.toList)
def IOp.zero : IOp → List Cell
  | .new _ _ _ z | .build z _ | .msl _ _ _ _ z _ => z
  | _ => []

inductive ICode where
  | skip
  | reg (draw : Bool) (sw : List Nat) (un : List (Nat × Nat)) (ops : List IOper)
  | seq (a b : ICode)
  | cond (c : Src) (a b : ICode)
  | block (id : Nat) (b : ICode)
  | loop (tr bx : List Nat) (b : ICode)
  | exit (id : Nat)
  | ret

inductive IRes where
  | tmp (t : Nat)
  | cell (t : Nat) (ag : Bool) (n : Nat)

structure IFun where
  np : Nat
  nt : Nat
  res : List IRes
  body : ICode

structure St where
  env : List (Nat × V)
  loc : List (Nat × Blk)
  out : List (Option Blk)
  cr : List Nat

section lists
variable {α : Type}
def lk (t : Nat) : List (Nat × α) → Option α
  | [] => none
  | (k, x) :: r => if k = t then some x else lk t r
def up (t : Nat) (x : α) : List (Nat × α) → List (Nat × α)
  | [] => [(t, x)]
  | (k, y) :: r => if k = t then (t, x) :: r else (k, y) :: up t x r
def del (t : Nat) : List (Nat × α) → List (Nat × α)
  | [] => []
  | (k, y) :: r => if k = t then del t r else (k, y) :: del t r
end lists

def St.ev (σ : St) : Src → V
  | .t i => (lk i σ.env).getD (.c .junk)
  | .v x => x
def St.get (σ : St) : Key → Option Blk
  | .o i => (σ.out[i]?).getD none
  | .l s => lk s σ.loc
def St.set (σ : St) (k : Key) (b : Option Blk) : St :=
  match k, b with
  | .o i, b => { σ with out := σ.out.set i b }
  | .l s, some b => { σ with loc := up s b σ.loc }
  | .l s, none => { σ with loc := del s σ.loc }
def St.sets (σ : St) : List (Key × Option Blk) → St
  | [] => σ
  | (k, b) :: r => (σ.set k b).sets r
def St.put (σ : St) (d : Option Nat) (v : V) : St :=
  match d with
  | some d => { σ with env := up d v σ.env }
  | none => σ

/-! ### References -/
def Loc.ren (ρ : Key → Option Key) (p : Loc) : Option Loc := (ρ p.k).map fun k => ⟨k, p.i, p.o⟩
def locsRen (ρ : Key → Option Key) : List Loc → Option (List Loc)
  | [] => some []
  | p :: r => match p.ren ρ, locsRen ρ r with
    | some p, some r => some (p :: r)
    | _, _ => none
def Cell.ren (ρ : Key → Option Key) : Cell → Cell
  | .ptr p => match p.ren ρ with | some p => .ptr p | none => .junk
  | .slc k z i n => match ρ k with | some k => .slc k z i n | none => .junk
  | .fn f cap => match locsRen ρ cap with | some cap => .fn f cap | none => .junk
  | c => c
def V.ren1 (ρ : Key → Option Key) : V → V
  | .c x => .c (x.ren ρ)
  | .agg cs => .agg (cs.map (Cell.ren ρ))
  | .tup _ => .c .junk
def V.ren (ρ : Key → Option Key) : V → V
  | .tup vs => .tup (vs.map (V.ren1 ρ))
  | v => v.ren1 ρ
def Blk.ren (ρ : Key → Option Key) (b : Blk) : Blk :=
  if b.pl then b else { b with els := b.els.map fun e => e.map (Cell.ren ρ) }
def killR (ns : List Nat) : Key → Option Key
  | .l s => if ns.contains s then none else some (.l s)
  | k => some k
def lmap {α β : Type} (f : α → β) : List (Nat × α) → List (Nat × β)
  | [] => []
  | (k, x) :: r => (k, f x) :: lmap f r
def delAll {α : Type} (ns : List Nat) : List (Nat × α) → List (Nat × α)
  | [] => []
  | (k, x) :: r => if ns.contains k then delAll ns r else (k, x) :: delAll ns r
/-- All references to these names are forgotten, and the blocks, too. -/
def St.kill (σ : St) (ns : List Nat) : St :=
  { env := lmap (V.ren (killR ns)) σ.env, loc := lmap (Blk.ren (killR ns)) (delAll ns σ.loc), out := σ.out.map (Option.map (Blk.ren (killR ns))), cr := σ.cr.filter fun n => !ns.contains n }
def Cell.keys : Cell → List Key
  | .ptr p => [p.k]
  | .slc k _ _ _ => [k]
  | .fn _ cap => cap.map (·.k)
  | _ => []
def cellsKeys : List Cell → List Key
  | [] => []
  | c :: r => c.keys ++ cellsKeys r
def V.keys1 : V → List Key
  | .c x => x.keys
  | .agg cs => cellsKeys cs
  | .tup _ => []
def valsKeys : List V → List Key
  | [] => []
  | v :: r => v.keys1 ++ valsKeys r
def V.keys : V → List Key
  | .tup vs => valsKeys vs
  | v => v.keys1
def elsKeys : List (List Cell) → List Key
  | [] => []
  | e :: r => cellsKeys e ++ elsKeys r
def Blk.keys (b : Blk) : List Key := if b.pl then [] else elsKeys b.els
def reach (get : Key → Option Blk) : Nat → List Key → List Key → Option (List Key)
  | _, [], acc => some acc
  | 0, _ :: _, _ => none
  | n + 1, k :: ks, acc =>
    if acc.contains k then reach get n ks acc else
    match get k with
    | none => none
    | some b => reach get n (ks ++ b.keys) (acc ++ [k])
/-- The place of k on a list. -/
def place (k : Key) : List Key → Nat → Option Nat
  | [], _ => none
  | x :: r, n => if x = k then some n else place k r (n + 1)
def inR (κs : List Key) (k : Key) : Option Key := (place k κs 0).map .o
def nm (d i : Nat) : Nat := 1000 * (d + 1) + i
def names (d : Nat) : Nat → List Nat
  | 0 => []
  | n + 1 => names d n ++ [nm d n]
def outR (κs : List Key) (d m : Nat) : Key → Option Key
  | .o i => match κs[i]? with
    | some (.l s) => if (names d m).contains s then none else some (.l s)
    | x => x
  | .l i => if i < m then some (.l (nm d i)) else none

/-! ### Operations -/
structure Eff where
  v : V
  r : List Key
  w : List (Key × Option Blk)
  n : List Nat

def Cell.plain : Cell → Bool
  | .int .. | .bool _ => true
  | _ => false
def allPlain : List Cell → Bool
  | [] => true
  | c :: r => c.plain && allPlain r
def V.cells : V → Option (List Cell)
  | .c .junk => none
  | .c x => some [x]
  | .agg cs => some cs
  | .tup _ => none
def V.cellsG : Bool → V → Option (List Cell)
  | false, .c .junk => none
  | false, .c x => some [x]
  | true, .agg cs => some cs
  | _, _ => none
def mkV (ag : Bool) (cs : List Cell) : Option V :=
  match ag, cs with
  | true, cs => some (.agg cs)
  | false, [c] => some (.c c)
  | _, _ => none
def splice (cs : List Cell) (off : Nat) (xs : List Cell) : List Cell := cs.take off ++ xs ++ cs.drop (off + xs.length)
def fillC (ρ : Src → V) : List Cell → List (Nat × Nat × Src) → Option (List Cell)
  | z, [] => some z
  | z, (off, n, x) :: r =>
    match (ρ x).cells with
    | some xs => if xs.length = n ∧ off + n ≤ z.length then fillC ρ (splice z off xs) r else none
    | none => none
def andK (k : IntKind) (a b : Int) : Int := k.wrap (BitVec.ofInt k.bits a &&& BitVec.ofInt k.bits b).toNat
def orK (k : IntKind) (a b : Int) : Int := k.wrap (BitVec.ofInt k.bits a ||| BitVec.ofInt k.bits b).toNat
def binC (op : BinOp) : Cell → Cell → Option Cell
  | .int k a, .int k' b =>
    match op with
    | .shl => if 0 ≤ b then some (.int k (k.wrap (a * 2 ^ (min b.toNat k.bits)))) else none
    | .shr => if 0 ≤ b then some (.int k (a.fdiv (2 ^ (min b.toNat k.bits)))) else none
    | .add => if k = k' then some (.int k (k.wrap (a + b))) else none
    | .sub => if k = k' then some (.int k (k.wrap (a - b))) else none
    | .mul => if k = k' then some (.int k (k.wrap (a * b))) else none
    | .quo => if k = k' ∧ b ≠ 0 then some (.int k (k.wrap (a.tdiv b))) else none
    | .rem => if k = k' ∧ b ≠ 0 then some (.int k (a.tmod b)) else none
    | .and => if k = k' then some (.int k (andK k a b)) else none
    | .or => if k = k' then some (.int k (orK k a b)) else none
    | .eql => if k = k' then some (.bool (a == b)) else none
    | .neq => if k = k' then some (.bool (a != b)) else none
    | .lss => if k = k' then some (.bool (a < b)) else none
    | .leq => if k = k' then some (.bool (a ≤ b)) else none
    | .gtr => if k = k' then some (.bool (a > b)) else none
    | .geq => if k = k' then some (.bool (a ≥ b)) else none
    | _ => none
  | _, _ => none
/-- Equality of two cells, numbers or not. -/
def eqC : Bool → Cell → Cell → Option Bool
  | true, .int k a, .int k' b => if k = k' then some (a == b) else none
  | false, .bool a, .bool b => some (a == b)
  | _, _, _ => none
def eqCs : List Bool → List Cell → List Cell → Option Bool
  | [], [], [] => some true
  | k :: ks, a :: r, b :: s => match eqC k a b, eqCs ks r s with
    | some x, some y => some (x && y)
    | _, _ => none
  | _, _, _ => none
def unC : UnOp → Cell → Option Cell
  | .neg, .int k a => some (.int k (k.wrap (0 - a)))
  | .not, .bool b => some (.bool !b)
  | _, _ => none
def mmC (mx : Bool) : Cell → Cell → Option Cell
  | .int k x, .int k' y => if k = k' then some (.int k (if mx then (if y > x then y else x) else (if y < x then y else x))) else none
  | _, _ => none
def rowsOf (get : Key → Option Blk) (sz : Nat) : V → Option (List Key × List (List Cell))
  | .c .nils => some ([], [])
  | .c (.slc k _ i n) => match get k with
    | some b => if b.pl = true ∧ b.sz = sz ∧ i + n ≤ b.els.length then some ([k], (b.els.drop i).take n) else none
    | none => none
  | _ => none
def capsOf : List V → Option (List Loc)
  | [] => some []
  | .c (.ptr p) :: r => (capsOf r).map (p :: ·)
  | _ => none
def srcs (ρ : Src → V) : List Src → List V
  | [] => []
  | x :: r => ρ x :: srcs ρ r
def onesOf : List V → Option (List (List Cell))
  | [] => some []
  | v :: r => match v.cells, onesOf r with
    | some c, some r => some (c :: r)
    | _, _ => none
abbrev CallF := Nat → List V → List Blk → Option (V × List (Option Blk) × List Blk)
def pure1 (v : V) : Option Eff := some ⟨v, [], [], []⟩
def getAll (get : Key → Option Blk) : List Key → Option (List Blk)
  | [] => some []
  | k :: r => match get k, getAll get r with
    | some b, some r => some (b :: r)
    | _, _ => none
def outW (κs : List Key) (ρ : Key → Option Key) (bs : List Blk) (os : List (Option Blk)) : List (Key × Option Blk) :=
  match κs, bs, os with
  | k :: κs, b :: bs, o :: os => if b.own then (k, o.map (Blk.ren ρ)) :: outW κs ρ bs os else outW κs ρ bs os
  | k :: κs, b :: bs, [] => if b.own then (k, none) :: outW κs ρ bs [] else outW κs ρ bs []
  | _, _, _ => []
def newW (d : Nat) (ρ : Key → Option Key) : Nat → List Blk → List (Key × Option Blk)
  | _, [] => []
  | i, b :: r => (.l (nm d i), some (b.ren ρ)) :: newW d ρ (i + 1) r
def noTup : List V → Bool
  | [] => true
  | .tup _ :: _ => false
  | _ :: r => noTup r
def fpCallG (call : CallF) (get : Key → Option Blk) (d : Nat) (f : Nat) (vs : List V) (κs : List Key) : Option Eff :=
  match getAll get κs with
  | none => none
  | some bs => match call f (vs.map (V.ren1 (inR κs))) (bs.map (Blk.ren (inR κs))) with
    | none => none
    | some (v, os, news) => some ⟨v.ren (outR κs d news.length), κs, outW κs (outR κs d news.length) bs os ++ newW d (outR κs d news.length) 0 news, names d news.length⟩
def fpCall (call : CallF) (get : Key → Option Blk) (d : Nat) (f : Nat) (vs : List V) : Option Eff :=
  if noTup vs = true then
    match reach get 64 (valsKeys vs) [] with
    | none => none
    | some [] => match call f vs [] with
      | some (v, _, []) => some ⟨v.ren fun _ => none, [], [], []⟩
      | some (v, _, news) => some ⟨v.ren (outR [] d news.length), [], newW d (outR [] d news.length) 0 news, names d news.length⟩
      | none => none
    | some κs => fpCallG call get d f vs κs
  else none
def slB (ρ : Src → V) (len : Nat) : Option Src → Option Src → Option (Nat × Nat)
  | none, none => some (0, len)
  | some x, none => match ρ x with
    | .c (.int _ a) => if 0 ≤ a ∧ a ≤ len then some (a.toNat, len) else none
    | _ => none
  | none, some y => match ρ y with
    | .c (.int _ b) => if 0 ≤ b ∧ b ≤ len then some (0, b.toNat) else none
    | _ => none
  | some x, some y => match ρ x, ρ y with
    | .c (.int _ a), .c (.int _ b) => if 0 ≤ a ∧ a ≤ b ∧ b ≤ len then some (a.toNat, b.toNat) else none
    | _, _ => none
def maxRow : Nat := 1073741824
def word : Int := 18446744073709551616
def b2i : Bool → Int
  | true => 1
  | false => 0
theorem b2i_le (b : Bool) : b2i b ≤ 1 := by cases b <;> decide
theorem b2i_ge (b : Bool) : 0 ≤ b2i b := by cases b <;> decide
def fp (call : CallF) (ρ : Src → V) (get : Key → Option Blk) (d : Nat) : IOp → Option Eff
  | .mv x => pure1 (ρ x)
  | .pick c a b => match ρ c with
    | .c (.bool t) => pure1 (if t then ρ a else ρ b)
    | _ => none
  | .new T sz pl z => if z.length = sz ∧ (pl = true → allPlain z = true) then some ⟨.c (.ptr ⟨.l d, 0, 0⟩), [], [(.l d, some ⟨T, sz, true, pl, [z]⟩)], [d]⟩ else none
  | .box T sz pl x => match (ρ x).cells with
    | some z => if z.length = sz ∧ (pl = true → allPlain z = true) then some ⟨.c (.ptr ⟨.l d, 0, 0⟩), [], [(.l d, some ⟨T, sz, true, pl, [z]⟩)], [d]⟩ else none
    | none => none
  | .build z ps => match fillC ρ z ps with
    | some cs => pure1 (.agg cs)
    | none => none
  | .load ag n a => match ρ a with
    | .c (.ptr p) => match get p.k with
      | some b => match b.els[p.i]? with
        | some e => if p.o + n ≤ e.length then (mkV ag ((e.drop p.o).take n)).map fun v => ⟨v, [p.k], [], []⟩ else none
        | none => none
      | none => none
    | _ => none
  | .store n a x => match ρ a, (ρ x).cells with
    | .c (.ptr p), some xs => match get p.k with
      | some b => match b.els[p.i]? with
        | some e => if b.own = true ∧ xs.length = n ∧ p.o + n ≤ e.length ∧ (b.pl = true → allPlain xs = true) then some ⟨.c .junk, [p.k], [(p.k, some { b with els := b.els.set p.i (splice e p.o xs) })], []⟩ else none
        | none => none
      | none => none
    | _, _ => none
  | .bin op x y => match ρ x, ρ y with
    | .c a, .c b => match binC op a b with
      | some r => pure1 (.c r)
      | none => none
    | _, _ => none
  | .eqa neg g ks x y => match (ρ x).cellsG g, (ρ y).cellsG g with
    | some a, some b => match eqCs ks a b with
      | some r => pure1 (.c (.bool (if neg then !r else r)))
      | none => none
    | _, _ => none
  | .un op x => match ρ x with
    | .c a => match unC op a with
      | some r => pure1 (.c r)
      | none => none
    | _ => none
  | .conv k x => match ρ x with
    | .c (.int _ n) => pure1 (.c (.int k (k.wrap n)))
    | _ => none
  | .field ag off n x => match ρ x with
    | .agg cs => if off + n ≤ cs.length then (mkV ag ((cs.drop off).take n)).map fun v => ⟨v, [], [], []⟩ else none
    | _ => none
  | .faddr off x => match ρ x with
    | .c (.ptr p) => pure1 (.c (.ptr ⟨p.k, p.i, p.o + off⟩))
    | _ => none
  | .iaddr sz x i => match ρ x, ρ i with
    | .c (.slc k z j n), .c (.int _ a) => if z = sz ∧ 0 ≤ a ∧ a < n then pure1 (.c (.ptr ⟨k, j + a.toNat, 0⟩)) else none
    | _, _ => none
  | .iaddrA len sz x i => match ρ x, ρ i with
    | .c (.ptr p), .c (.int _ a) => if 0 ≤ a ∧ a < len then pure1 (.c (.ptr ⟨p.k, p.i, p.o + a.toNat * sz⟩)) else none
    | _, _ => none
  | .index ag len sz x i => match ρ x, ρ i with
    | .agg cs, .c (.int _ a) => if 0 ≤ a ∧ a < len ∧ a.toNat * sz + sz ≤ cs.length then (mkV ag ((cs.drop (a.toNat * sz)).take sz)).map fun v => ⟨v, [], [], []⟩ else none
    | _, _ => none
  | .ext i x => match ρ x with
    | .tup vs => match vs[i]? with
      | some v => pure1 v
      | none => none
    | _ => none
  | .len x => match ρ x with
    | .c .nils => pure1 (.c (.int .i64 0))
    | .c (.slc _ _ _ n) => pure1 (.c (.int .i64 n))
    | _ => none
  | .mm mx x y => match ρ x, ρ y with
    | .c a, .c b => match mmC mx a b with
      | some r => pure1 (.c r)
      | none => none
    | _, _ => none
  | .app T sz bytes pl s x => match ρ s, rowsOf get sz (ρ x) with
    | .c .nils, some (ks, xs) => if pl = true ∧ xs.length ≤ maxRow ∧ bytes ≤ 1024 then some ⟨.c (.slc (.l d) sz 0 xs.length), ks, [(.l d, some ⟨T, sz, true, pl, xs⟩)], [d]⟩ else none
    | .c (.slc k _ i n), some (ks, xs) => match get k with
      | some b => if pl = true ∧ b.own = true ∧ i = 0 ∧ n ≤ b.els.length ∧ n + xs.length ≤ maxRow ∧ b.T = T ∧ b.sz = sz ∧ b.pl = pl ∧ ks.contains k = false ∧ bytes ≤ 1024 then
          some ⟨.c (.slc (.l d) sz 0 (n + xs.length)), k :: ks, [(k, none), (.l d, some ⟨T, sz, true, pl, b.els.take n ++ xs⟩)], [d]⟩ else none
      | none => none
    | _, _ => none
  | .bsl T sz pl ps => match onesOf (srcs ρ ps) with
    | some els => if els.all (fun e => e.length == sz && (!pl || allPlain e)) then some ⟨.c (.slc (.l d) sz 0 els.length), [], [(.l d, some ⟨T, sz, true, pl, els⟩)], [d]⟩ else none
    | none => none
  | .msl T sz bytes pl z n => match ρ n with
    | .c (.int .i64 a) => if 0 ≤ a ∧ a ≤ maxRow ∧ z.length = sz ∧ (pl = true → allPlain z = true) ∧ bytes ≤ 1024 then some ⟨.c (.slc (.l d) sz 0 a.toNat), [], [(.l d, some ⟨T, sz, true, pl, List.replicate a.toNat z⟩)], [d]⟩ else none
    | _ => none
  | .sl sz x lo hi => match ρ x with
    | .c (.slc k z i n) => match slB ρ n lo hi with
      | some (a, b) => if z = sz then pure1 (.c (.slc k z (i + a) (b - a))) else none
      | none => none
    | .c .nils => match slB ρ 0 lo hi with
      | some _ => pure1 (.c .nils)
      | none => none
    | _ => none
  | .fn f cap => match capsOf (srcs ρ cap) with
    | some l => pure1 (.c (.fn f l))
    | none => none
  | .nilchk x => match ρ x with
    | .c (.ptr p) => pure1 (.c (.ptr p))
    | .c (.fn f l) => pure1 (.c (.fn f l))
    | _ => none
  | .call f args => fpCall call get d f (srcs ρ args)
  | .callv f args => match ρ f with
    | .c (.fn g l) => fpCall call get d g (srcs ρ args ++ l.map fun p => .c (.ptr p))
    | _ => none
  | .add64 x y c => match ρ x, ρ y, ρ c with
    | .c (.int .u64 a), .c (.int .u64 b), .c (.int .u64 e) => if e ≤ 1 then pure1 (.tup [.c (.int .u64 ((a + b + e) % word)), .c (.int .u64 (b2i (decide (word ≤ a + b + e))))]) else none
    | _, _, _ => none
  | .sub64 x y c => match ρ x, ρ y, ρ c with
    | .c (.int .u64 a), .c (.int .u64 b), .c (.int .u64 e) => if e ≤ 1 then pure1 (.tup [.c (.int .u64 ((a - b - e) % word)), .c (.int .u64 (b2i (decide (a < b + e))))]) else none
    | _, _, _ => none

/-! ### Regions -/
/-- What an operation did: what it forgot, too. -/
structure Ev where
  r : List Key
  w : List Key
  k : Bool
def keysOf : List (Key × Option Blk) → List Key
  | [] => []
  | (k, _) :: r => k :: keysOf r
def meets : List Key → List Key → Bool
  | [], _ => false
  | k :: r, l => l.contains k || meets r l
def Ev.apart (a b : Ev) : Bool := !a.k && !b.k && !meets a.w b.r && !meets a.w b.w && !meets a.r b.w
def hits (ns cr : List Nat) : List Nat := ns.filter fun n => cr.contains n
def St.apply (σ : St) (d : Option Nat) (e : Eff) : St :=
  let σ' := match hits e.n σ.cr with
    | [] => σ
    | ks => σ.kill ks
  let σ' := (σ'.sets e.w).put d e.v
  { σ' with cr := e.n ++ σ'.cr }
def wants (σ : St) : Option (Nat × Bool) → Option Bool
  | none => some true
  | some (t, want) => match (lk t σ.env).getD (.c .junk) with
    | .c (.bool b) => some (b == want)
    | .tup [] => some false
    | _ => none
def preK : IOp → Bool
  | .new .. | .box .. | .bsl .. | .msl .. => true
  | _ => false
/-- An old block of this name is forgotten ahead of a new one. -/
def St.pre (σ : St) (d : Nat) (op : IOp) : St := if preK op && σ.cr.contains d then σ.kill [d] else σ
def evOp (call : CallF) (o : IOper) (σ : St) : Option (Ev × St) :=
  match wants σ o.g with
  | some true => match fp call (σ.pre (o.d.getD 0) o.op).ev (σ.pre (o.d.getD 0) o.op).get (o.d.getD 0) o.op with
    | some e => some (⟨e.r, keysOf e.w, (preK o.op && σ.cr.contains (o.d.getD 0)) || !(hits e.n σ.cr).isEmpty⟩, (σ.pre (o.d.getD 0) o.op).apply o.d e)
    | none => none
  | some false => some (⟨[], [], false⟩, σ.put o.d (.tup []))
  | none => none
def evOps (call : CallF) : List IOper → St → Option (List Ev × St)
  | [], σ => some ([], σ)
  | o :: r, σ => match evOp call o σ with
    | some (e, σ') => match evOps call r σ' with
      | some (es, σ'') => some (e :: es, σ'')
      | none => none
    | none => none
def okUn (es : List Ev) : List (Nat × Nat) → Bool
  | [] => true
  | (i, j) :: r => (match es[i]?, es[j]? with
    | some a, some b => a.apart b
    | _, _ => false) && okUn es r
/-- The names of these slots: what an allocation is called, and what a call's new blocks are called. -/
def swept (sw cr : List Nat) : List Nat := cr.filter fun n => sw.contains n || sw.contains (n / 1000 - 1)
def St.sweep (σ : St) (sw : List Nat) : St := match swept sw σ.cr with
  | [] => σ
  | ks => σ.kill ks
/-- A swept name is forgotten by nobody else. -/
def noK (sw : List Nat) : List IOper → List Ev → Bool
  | o :: r, e :: es => (!sw.contains (o.d.getD 0) || !e.k) && noK sw r es
  | _, _ => true
def evReg (call : CallF) (draw : Bool) (sw : List Nat) (un : List (Nat × Nat)) (ops : List IOper) (σ : St) : Option St :=
  match evOps call ops (if draw then σ.sweep sw else σ) with
  | some (es, σ') => if okUn es un = true ∧ (draw = true → noK sw ops es = true) then some σ' else none
  | none => none

/-! ### Code -/
inductive Ex where
  | normal
  | exit (id : Nat)
  | ret
def St.trim (σ : St) (tr bx : List Nat) : St := { σ with env := delAll tr σ.env, loc := delAll bx σ.loc }
def evLoop (run : St → Option (Ex × St)) (tr bx : List Nat) : Nat → St → Option (Ex × St)
  | 0, _ => none
  | n + 1, σ => match run σ with
    | some (.normal, σ') => evLoop run tr bx n (σ'.trim tr bx)
    | x => x
def loopFuel : Nat := 18446744073709551616
def thenC (x : Option (Ex × St)) (f : St → Option (Ex × St)) : Option (Ex × St) :=
  match x with
  | some (.normal, σ) => f σ
  | x => x
def inB (id : Nat) (x : Option (Ex × St)) : Option (Ex × St) :=
  match x with
  | some (.exit i, σ) => if i = id then some (.normal, σ) else some (.exit i, σ)
  | x => x
def evCode (call : CallF) : ICode → St → Option (Ex × St)
  | .skip, σ => some (.normal, σ)
  | .reg draw sw un ops, σ => match evReg call draw sw un ops σ with
    | some σ' => some (.normal, σ')
    | none => none
  | .seq a b, σ => thenC (evCode call a σ) (evCode call b)
  | .cond c a b, σ => match σ.ev c with
    | .c (.bool t) => if t then evCode call a σ else evCode call b σ
    | _ => none
  | .block id b, σ => inB id (evCode call b σ)
  | .loop tr bx b, σ => evLoop (evCode call b) tr bx loopFuel σ
  | .exit id, σ => some (.exit id, σ)
  | .ret, σ => some (.ret, σ)

/-! ### Functions -/
def resV (σ : St) : IRes → Option V
  | .tmp t => match (lk t σ.env).getD (.c .junk) with
    | .tup _ => none
    | v => some v
  | .cell t ag n => match (lk t σ.env).getD (.c .junk) with
    | .c (.ptr p) => match σ.get p.k with
      | some b => match b.els[p.i]? with
        | some e => if p.o + n ≤ e.length then mkV ag ((e.drop p.o).take n) else none
        | none => none
      | none => none
    | _ => none
def resVs (σ : St) : List IRes → Option (List V)
  | [] => some []
  | r :: rs => match resV σ r, resVs σ rs with
    | some v, some vs => some (v :: vs)
    | _, _ => none
def one : List V → V
  | [v] => v
  | vs => .tup vs
def outKeys : List (Option Blk) → List Key
  | [] => []
  | none :: r => outKeys r
  | some b :: r => b.keys ++ outKeys r
def ownGet (σ : St) : Key → Option Blk
  | .l s => lk s σ.loc
  | .o _ => none
def expR (κs : List Key) : Key → Option Key
  | .o i => some (.o i)
  | k => (place k κs 0).map .l
/-- The call's own blocks that are reached. -/
def reachL (loc : List (Nat × Blk)) : Nat → List Key → List Key → Option (List Key)
  | _, [], acc => some acc
  | 0, _ :: _, _ => none
  | n + 1, .o _ :: ks, acc => reachL loc n ks acc
  | n + 1, .l s :: ks, acc =>
    if acc.contains (.l s) then reachL loc n ks acc else
    match lk s loc with
    | none => none
    | some b => reachL loc n (ks ++ b.keys) (acc ++ [.l s])
def export1 (σ : St) (v : V) : Option (V × List (Option Blk) × List Blk) :=
  match v.keys ++ outKeys σ.out with
  | [] => some (v, σ.out, [])
  | ks => match reachL σ.loc 64 ks [] with
    | none => none
    | some κs => match getAll (ownGet σ) κs with
      | none => none
      | some bs => some (v.ren (expR κs), σ.out.map (Option.map (Blk.ren (expR κs))), bs.map (Blk.ren (expR κs)))
def args0 : Nat → List V → List (Nat × V)
  | _, [] => []
  | i, v :: r => (i, v) :: args0 (i + 1) r
/-- How many bits a number has. -/
def blen (n : Int) : Int := if n.toNat = 0 then 0 else (Nat.log2 n.toNat : Int) + 1
def primLen64 (_ : CallF) (args : List V) (out : List Blk) : Option (V × List (Option Blk) × List Blk) :=
  match args, out with
  | [.c (.int .u64 n)], [] => some (.c (.int .i64 (blen n)), [], [])
  | _, _ => none
/-- A function of the program: its code, or what is known of it otherwise. -/
inductive Ent where
  | fn (F : IFun)
  | prim (p : CallF → List V → List Blk → Option (V × List (Option Blk) × List Blk))
def runFn (call : CallF) (F : IFun) (args : List V) (out : List Blk) : Option (V × List (Option Blk) × List Blk) :=
  if args.length = F.np then
    match evCode call F.body ⟨args0 0 args, [], out.map some, []⟩ with
    | some (.exit _, _) => none
    | some (_, σ) => match resVs σ F.res with
      | some vs => export1 σ (one vs)
      | none => none
    | none => none
  else none
def evFun (T : Nat → Option Ent) : Nat → CallF
  | 0 => fun _ _ _ => none
  | D + 1 => fun f args out =>
    match T f with
    | none => none
    | some (.prim p) => p (evFun T D) args out
    | some (.fn F) => runFn (evFun T D) F args out
theorem ev_fn {T : Nat → Option Ent} {f : Nat} {F : IFun} (h : T f = some (.fn F)) (D : Nat) (args : List V) (out : List Blk) : evFun T (D + 1) f args out = runFn (evFun T D) F args out := by simp [evFun, h]
theorem ev_prim {T : Nat → Option Ent} {f : Nat} {p : CallF → List V → List Blk → Option (V × List (Option Blk) × List Blk)} (h : T f = some (.prim p)) (D : Nat) (args : List V) (out : List Blk) : evFun T (D + 1) f args out = p (evFun T D) args out := by simp [evFun, h]
end Go.Ab

namespace Go.Ab

structure Place where
  block : Nat
  base : Nat
  sz : Nat
  cap : Nat
  own : Bool
abbrev J := Key → Option Place
def inK (k : IntKind) (n : Int) : Prop := k.min ≤ n ∧ n ≤ k.max
def addrOf (p : Place) (i o : Nat) : Addr := ⟨p.block, p.base + i * p.sz + o, none⟩
def RelL (j : J) (p : Loc) (v : Value) : Prop := ∃ pl, j p.k = some pl ∧ v = .pointer (some (addrOf pl p.i p.o))
def All2 {α β : Type} (R : α → β → Prop) : List α → List β → Prop
  | [], [] => True
  | a :: as, b :: bs => R a b ∧ All2 R as bs
  | _, _ => False
def maxS : Nat := 4611686018427387904
def RelC (j : J) : Cell → Value → Prop
  | .int k n, v => v = .int k n ∧ inK k n
  | .bool b, v => v = .bool b
  | .ptr p, v => RelL j p v
  | .nilp, v => v = .pointer none
  | .slc k z i n, v => n < maxS ∧ ((∃ pl cap a, j k = some pl ∧ pl.sz = z ∧ v = .slice (some a) n cap ∧ n ≤ cap ∧ (i = 0 ∨ n ≠ 0 → a = addrOf pl i 0) ∧ (i = 0 → pl.own = true → cap = pl.cap)) ∨ (j k = none ∧ n = 0 ∧ v = .slice none 0 0))
  | .nils, v => v = .slice none 0 0
  | .fn f cap, v => ∃ vs : List Value, v = .func (.func f) #[] vs.toArray ∧ All2 (RelL j) cap vs
  | .nilf, v => v = .nilFunc
  | .junk, _ => True
def RelC1 (j : J) (c : Cell) (v : Value) : Prop := RelC j c v ∧ v.oneCell' = true
def RelV1 (j : J) : V → Value → Prop
  | .c x, v => RelC j x v
  | .agg cs, v => ∃ vs : List Value, v = .agg vs.toArray ∧ All2 (RelC1 j) cs vs
  | .tup _, _ => False
def RelV (j : J) : V → Value → Prop
  | .tup vs, v => ∃ ws : List Value, v = .tuple ws.toArray ∧ All2 (RelV1 j) vs ws
  | x, v => RelV1 j x v
structure RelB (j : J) (b : Blk) (p : Place) (w : World) : Prop where
  lt : p.block < w.heap.size
  sz : p.sz = b.sz
  own : p.own = b.own
  len : ∀ e ∈ b.els, e.length = b.sz
  pl : b.pl = true → ∀ e ∈ b.els, allPlain e = true
  rd : ∀ i e, b.els[i]? = some e → ∀ o c, e[o]? = some c → ∃ v, w.cell? (addrOf p i o) = some v ∧ RelC1 j c v
  ow : b.own = true → p.base = 0 ∧ b.els.length ≤ p.cap ∧ ∃ cs, w.heap[p.block]? = some (.cells cs b.T (0, 0)) ∧ cs.size = p.cap * b.sz
structure RelH (j : J) (get : Key → Option Blk) (w : World) : Prop where
  non : ∀ k b, get k = some b → j k = none → b.els = []
  som : ∀ k b p, get k = some b → j k = some p → RelB j b p w
  dis : ∀ k k' b b' p p', get k = some b → get k' = some b' → k ≠ k' → b.own = true → j k = some p → j k' = some p' → p.block ≠ p'.block
structure RelW (w0 : World) (W : Nat → Prop) (w : World) : Prop where
  os : w.os = w0.os
  tape : w.tape = w0.tape
  output : w.output = w0.output
  size : w0.heap.size ≤ w.heap.size
  block : ∀ i, i < w0.heap.size → ¬ W i → w.heap[i]? = w0.heap[i]?
theorem RelW.refl (w : World) (W : Nat → Prop) : RelW w W w := ⟨rfl, rfl, rfl, Nat.le_refl _, fun _ _ _ => rfl⟩
theorem RelW.trans {w0 w1 w2 : World} {W W' : Nat → Prop} (h : RelW w0 W w1) (h' : RelW w1 W' w2) (hW : ∀ i, W' i → W i ∨ w0.heap.size ≤ i) : RelW w0 W w2 :=
  ⟨h'.os.trans h.os, h'.tape.trans h.tape, h'.output.trans h.output, Nat.le_trans h.size h'.size, fun i hi hn =>
    (h'.block i (Nat.lt_of_lt_of_le hi h.size) (fun hw => (hW i hw).elim hn (fun h => absurd hi (by omega)))).trans (h.block i hi hn)⟩

def okK (cr : List Nat) (k : Key) : Prop := ∀ s, k = .l s → s ∈ cr
/-- What a call may write, and what the caller knows. -/
structure Wr where
  w : Nat → Prop
  jo : Nat → Option Place
  oo : Nat → Bool
instance : CoeFun Wr fun _ => Nat → Prop := ⟨Wr.w⟩
structure Rel (nt : Nat) (w0 : World) (W : Wr) (j : J) (σ : St) (a : Act) (w : World) : Prop where
  n : a.tmps.size = nt
  df : a.defers = []
  env : ∀ t, RelV j (σ.ev (.t t)) (a.tmps.getD t undef)
  hp : RelH j σ.get w
  fr : RelW w0 W.w w
  ow : ∀ k b p, σ.get k = some b → b.own = true → j k = some p → W p.block ∨ w0.heap.size ≤ p.block
  ek : ∀ t, ∀ k ∈ (σ.ev (.t t)).keys, okK σ.cr k
  hk : ∀ k b, σ.get k = some b → ∀ k' ∈ b.keys, okK σ.cr k'
  jo : ∀ i, j (.o i) = W.jo i
  oo : ∀ i b, σ.get (.o i) = some b → W.oo i = true → b.own = true
  lo : ∀ s b, σ.get (.l s) = some b → b.own = true

/-! ### Lists -/
section lists
variable {α β γ : Type}
theorem All2.length {R : α → β → Prop} : ∀ {l : List α} {m : List β}, All2 R l m → l.length = m.length
  | [], [], _ => rfl
  | _ :: _, _ :: _, h => by simp [All2.length h.2]
theorem All2.imp {R S : α → β → Prop} (hi : ∀ a b, R a b → S a b) : ∀ {l : List α} {m : List β}, All2 R l m → All2 S l m
  | [], [], _ => trivial
  | _ :: _, _ :: _, h => ⟨hi _ _ h.1, All2.imp hi h.2⟩
theorem All2.impM {R S : α → β → Prop} : ∀ {l : List α} {m : List β}, All2 R l m → (∀ a ∈ l, ∀ b, R a b → S a b) → All2 S l m
  | [], [], _, _ => trivial
  | _ :: _, _ :: _, h, hi => ⟨hi _ (by simp) _ h.1, All2.impM h.2 fun a ha => hi a (by simp [ha])⟩
theorem All2.get {R : α → β → Prop} : ∀ {l : List α} {m : List β}, All2 R l m → ∀ {i : Nat} {a : α}, l[i]? = some a → ∃ b, m[i]? = some b ∧ R a b
  | [], [], _, i, a, h => by simp at h
  | x :: l, y :: m, h, 0, a, e => by simp at e; subst e; exact ⟨y, rfl, h.1⟩
  | x :: l, y :: m, h, i + 1, a, e => by simpa using All2.get h.2 (by simpa using e)
theorem All2.map {R : γ → β → Prop} (f : α → γ) : ∀ {l : List α} {m : List β}, All2 R (l.map f) m ↔ All2 (fun a b => R (f a) b) l m
  | [], [] => Iff.rfl
  | [], _ :: _ => Iff.rfl
  | _ :: _, [] => Iff.rfl
  | _ :: l, _ :: m => by simp [All2, All2.map (R := R) f (l := l) (m := m)]
theorem All2.append {R : α → β → Prop} : ∀ {l : List α} {m : List β} {l' : List α} {m' : List β}, All2 R l m → All2 R l' m' → All2 R (l ++ l') (m ++ m')
  | [], [], _, _, _, h => h
  | _ :: _, _ :: _, _, _, h, h' => ⟨h.1, All2.append h.2 h'⟩
theorem All2.take {R : α → β → Prop} : ∀ {l : List α} {m : List β} (n : Nat), All2 R l m → All2 R (l.take n) (m.take n)
  | _, _, 0, _ => by simp [All2]
  | [], [], _ + 1, h => by simp [All2]
  | _ :: _, _ :: _, n + 1, h => ⟨h.1, All2.take n h.2⟩
theorem All2.drop {R : α → β → Prop} : ∀ {l : List α} {m : List β} (n : Nat), All2 R l m → All2 R (l.drop n) (m.drop n)
  | _, _, 0, h => by simpa using h
  | [], [], _ + 1, h => by simp [All2]
  | _ :: _, _ :: _, n + 1, h => by simpa using All2.drop n h.2
theorem All2.of_get {R : α → β → Prop} : ∀ {l : List α} {m : List β}, l.length = m.length → (∀ (i : Nat) (a : α) (b : β), l[i]? = some a → m[i]? = some b → R a b) → All2 R l m
  | [], [], _, _ => trivial
  | a :: l, b :: m, hl, h => ⟨h 0 a b rfl rfl, All2.of_get (by simpa using hl) fun i a b ha hb => h (i + 1) a b (by simpa using ha) (by simpa using hb)⟩

theorem lk_up (t s : Nat) (x : α) : ∀ l : List (Nat × α), lk s (up t x l) = if t = s then some x else lk s l
  | [] => by simp [up, lk]
  | (k, y) :: r => by
    unfold up
    by_cases h : k = t
    · subst h; simp only [if_true, lk]; by_cases h' : k = s <;> simp [h']
    · simp only [if_neg h, lk, lk_up t s x r]
      by_cases h' : k = s
      · subst h'; simp [Ne.symm h]
      · simp [h']
theorem lk_del (t s : Nat) : ∀ l : List (Nat × α), lk s (del t l) = if t = s then none else lk s l
  | [] => by simp [del, lk]
  | (k, y) :: r => by
    unfold del
    by_cases h : k = t
    · subst h; simp only [if_true, lk_del k s r, lk]; by_cases h' : k = s <;> simp [h']
    · simp only [if_neg h, lk, lk_del t s r]
      by_cases h' : k = s
      · subst h'; simp [Ne.symm h]
      · simp [h']
theorem lk_delAll (ns : List Nat) (s : Nat) : ∀ l : List (Nat × α), lk s (delAll ns l) = if ns.contains s = true then none else lk s l
  | [] => by simp [delAll, lk]
  | (k, y) :: r => by
    unfold delAll
    by_cases h : ns.contains k = true
    · rw [if_pos h, lk_delAll ns s r]
      by_cases h' : k = s
      · subst h'; simp only [h, if_true]
      · simp only [lk, if_neg h']
    · rw [if_neg h]
      simp only [lk, lk_delAll ns s r]
      by_cases h' : k = s
      · subst h'; simp only [if_true, if_neg h]
      · simp only [if_neg h']
theorem lk_lmap {β : Type} (f : α → β) (s : Nat) : ∀ l : List (Nat × α), lk s (lmap f l) = (lk s l).map f
  | [] => rfl
  | (k, y) :: r => by
    simp only [lmap, lk, lk_lmap f s r]
    split <;> rfl
end lists

/-! ### What a change of places leaves -/
theorem RelL.congr {j j' : J} {p : Loc} {v : Value} (h : j' p.k = j p.k) (hr : RelL j p v) : RelL j' p v := by
  obtain ⟨pl, h1, h2⟩ := hr; exact ⟨pl, h.trans h1, h2⟩
theorem RelC.congr {j j' : J} {c : Cell} {v : Value} (h : ∀ k ∈ c.keys, j' k = j k) (hr : RelC j c v) : RelC j' c v := by
  cases c with
  | ptr p => exact RelL.congr (h _ (by simp [Cell.keys])) hr
  | slc k z i n => have e := h k (by simp [Cell.keys]); simp only [RelC] at *; rw [e]; exact hr
  | fn f cap =>
    obtain ⟨vs, h1, h2⟩ := hr
    exact ⟨vs, h1, h2.impM fun a ha b hb => RelL.congr (h _ (by simp [Cell.keys]; exact ⟨a, ha, rfl⟩)) hb⟩
  | _ => exact hr
theorem RelC1.congr {j j' : J} {c : Cell} {v : Value} (h : ∀ k ∈ c.keys, j' k = j k) (hr : RelC1 j c v) : RelC1 j' c v := ⟨hr.1.congr h, hr.2⟩
theorem mem_cellsKeys {k : Key} {c : Cell} : ∀ {cs : List Cell}, c ∈ cs → k ∈ c.keys → k ∈ cellsKeys cs
  | _ :: _, h, hk => by
    simp only [cellsKeys, List.mem_append]
    rcases List.mem_cons.1 h with rfl | h
    · exact .inl hk
    · exact .inr (mem_cellsKeys h hk)
theorem mem_elsKeys {k : Key} {e : List Cell} : ∀ {es : List (List Cell)}, e ∈ es → k ∈ cellsKeys e → k ∈ elsKeys es
  | _ :: _, h, hk => by
    simp only [elsKeys, List.mem_append]
    rcases List.mem_cons.1 h with rfl | h
    · exact .inl hk
    · exact .inr (mem_elsKeys h hk)
theorem mem_valsKeys {k : Key} {v : V} : ∀ {vs : List V}, v ∈ vs → k ∈ v.keys1 → k ∈ valsKeys vs
  | _ :: _, h, hk => by
    simp only [valsKeys, List.mem_append]
    rcases List.mem_cons.1 h with rfl | h
    · exact .inl hk
    · exact .inr (mem_valsKeys h hk)
theorem RelV1.congr {j j' : J} {x : V} {v : Value} (h : ∀ k ∈ x.keys1, j' k = j k) (hr : RelV1 j x v) : RelV1 j' x v := by
  cases x with
  | c x => exact RelC.congr h hr
  | agg cs =>
    obtain ⟨vs, h1, h2⟩ := hr
    exact ⟨vs, h1, h2.impM fun a ha b hb => hb.congr fun k hk => h k (mem_cellsKeys ha hk)⟩
  | tup vs => exact hr.elim
theorem RelV.congr {j j' : J} {x : V} {v : Value} (h : ∀ k ∈ x.keys, j' k = j k) (hr : RelV j x v) : RelV j' x v := by
  cases x with
  | c x => exact RelV1.congr (x := .c x) h hr
  | agg cs => exact RelV1.congr (x := .agg cs) h hr
  | tup vs =>
    obtain ⟨ws, h1, h2⟩ := hr
    exact ⟨ws, h1, h2.impM fun a ha b hb => hb.congr fun k hk => h k (mem_valsKeys ha hk)⟩
theorem plain_keys {c : Cell} (h : c.plain = true) : c.keys = [] := by cases c <;> simp_all [Cell.plain, Cell.keys]
theorem allPlain_mem {cs : List Cell} (h : allPlain cs = true) {c : Cell} (hc : c ∈ cs) : c.plain = true := by
  induction cs with
  | nil => cases hc
  | cons x r ih =>
    simp only [allPlain, Bool.and_eq_true] at h
    rcases List.mem_cons.1 hc with rfl | hc
    · exact h.1
    · exact ih h.2 hc
theorem Blk.key_mem {b : Blk} {e : List Cell} {c : Cell} {k : Key} (hp : b.pl = true → ∀ e ∈ b.els, allPlain e = true) (he : e ∈ b.els) (hc : c ∈ e) (hk : k ∈ c.keys) : k ∈ b.keys := by
  unfold Blk.keys
  split
  · rename_i h
    rw [plain_keys (allPlain_mem (hp h e he) hc)] at hk; cases hk
  · exact mem_elsKeys he (mem_cellsKeys hc hk)
theorem RelB.congr {j j' : J} {b : Blk} {p : Place} {w : World} (h : ∀ k ∈ b.keys, j' k = j k) (hr : RelB j b p w) : RelB j' b p w :=
  ⟨hr.lt, hr.sz, hr.own, hr.len, hr.pl, fun i e he o c hc =>
    let ⟨v, h1, h2⟩ := hr.rd i e he o c hc
    ⟨v, h1, h2.congr fun k hk => h k (Blk.key_mem hr.pl (List.mem_of_getElem? he) (List.mem_of_getElem? hc) hk)⟩, hr.ow⟩
/-- The world turned, but not there. -/
theorem RelB.world {j : J} {b : Blk} {p : Place} {w w' : World} (hr : RelB j b p w) (h : w'.heap[p.block]? = w.heap[p.block]?) (hs : w.heap.size ≤ w'.heap.size) : RelB j b p w' :=
  ⟨Nat.lt_of_lt_of_le hr.lt hs, hr.sz, hr.own, hr.len, hr.pl, fun i e he o c hc => by
    obtain ⟨v, h1, h2⟩ := hr.rd i e he o c hc
    refine ⟨v, ?_, h2⟩
    rw [← h1]; simp only [World.cell?, addrOf, h], fun ho => by rw [h]; exact hr.ow ho⟩
theorem RelC1.mem_one {j : J} {c : Cell} {v : Value} (h : RelC1 j c v) : RelV1 j (.c c) v := h.1
end Go.Ab

namespace Go.Ab

def cellOfV : Value → Option Cell
  | .int k n => if k.min ≤ n ∧ n ≤ k.max then some (.int k n) else none
  | .bool b => some (.bool b)
  | .pointer none => some .nilp
  | .slice none 0 0 => some .nils
  | .nilFunc => some .nilf
  | _ => none
def cellsOfL : List Value → Option (List Cell)
  | [] => some []
  | v :: r => match cellOfV v, cellsOfL r with
    | some c, some r => some (c :: r)
    | _, _ => none
def vOfV : Value → Option V
  | .agg cs => (cellsOfL cs.toList).map .agg
  | v => (cellOfV v).map .c
def srcOf : Operand → Option Src
  | .tmp t => some (.t t)
  | .const v => (vOfV v).map .v
  | .func f => some (.v (.c (.fn f [])))
  | .global _ => none
def srcsOf : List Operand → Option (List Src)
  | [] => some []
  | x :: r => match srcOf x, srcsOf r with
    | some s, some r => some (s :: r)
    | _, _ => none
def sizeT (P : Program) (t : TypeId) : Option Nat := (P.info? t).map (·.size)
def bytesT (P : Program) (t : TypeId) : Option Nat := (P.info? t).map (·.bytes)
def zeroT (P : Program) (t : TypeId) : Option (List Cell) := ((P.info? t).bind (·.zero)).bind fun z => cellsOfL z.cells.toList
def aggT (P : Program) (t : TypeId) : Option Bool :=
  match P.underlying t with
  | some (.struct _) | some (.array _ _) => some true
  | some _ => some false
  | none => none
/-- Only an aggregate has other than one cell. -/
def loadT (P : Program) (t : TypeId) : Option (Bool × Nat) :=
  match aggT P t, sizeT P t with
  | some true, some n => some (true, n)
  | some false, some n => if n = 1 then some (false, 1) else none
  | _, _ => none
def placesT (P : Program) (fs : Array Field) : Option (List (Nat × Nat)) := fs.toList.mapM fun f => (P.info? f.type).map fun i => (f.offset, i.size)
def partsS (pl : List (Nat × Nat)) : List (Nat × Operand) → Option (List (Nat × Nat × Src))
  | [] => some []
  | (i, x) :: r => match pl[i]?, srcOf x, partsS pl r with
    | some (off, n), some s, some r => some ((off, n, s) :: r)
    | _, _, _ => none
def partsA (n : Nat) : List (Nat × Operand) → Option (List (Nat × Nat × Src))
  | [] => some []
  | (i, x) :: r => match srcOf x, partsA n r with
    | some s, some r => some ((i * n, n, s) :: r)
    | _, _ => none
def partsL : Nat → List (Nat × Operand) → Option (List Src)
  | _, [] => some []
  | k, (i, x) :: r => if i = k then match srcOf x, partsL (k + 1) r with
    | some s, some r => some (s :: r)
    | _, _ => none else none
def plOf : IOp → Bool
  | .new _ _ p _ | .box _ _ p _ | .bsl _ _ p _ | .msl _ _ _ p _ _ | .app _ _ _ p _ _ => p
  | _ => false
/-- The kinds of a type's cells, as '==' asks them: is each a number? -/
def eqT (P : Program) : Nat → TypeId → Option (List Bool)
  | 0, _ => none
  | n + 1, t => match P.underlying t with
    | some .bool => some [false]
    | some (.int _) => some [true]
    | some (.struct fs) => if P.stoodInHeld t then none else eqF P (eqT P n) 0 fs.toList
    | some (.array len e) => match eqT P n e, sizeT P e, aggT P e with
      | some [b], some 1, some false => some (List.replicate len b)
      | _, _, _ => none
    | _ => none
where
  eqF (P : Program) (sub : TypeId → Option (List Bool)) : Nat → List Field → Option (List Bool)
    | _, [] => some []
    | off, f :: r => match sub f.type, sizeT P f.type, eqF P sub (off + (sizeT P f.type).getD 0) r with
      | some m, some s, some l => if m.length = s ∧ f.offset = off ∧ f.name ≠ "_" then some (m ++ l) else none
      | _, _, _ => none
def compOp (P : Program) (h : IOp) : Op → Option IOp
  | .move x | .assign x => (srcOf x).map .mv
  | .pick c a b => match srcOf c, srcOf a, srcOf b with
    | some c, some a, some b => some (.pick c a b)
    | _, _, _ => none
  | .alloc t => match zeroT P t, sizeT P t with
    | some z, some n => some (.new t n (plOf h) z)
    | _, _ => none
  | .box t x => match srcOf x, sizeT P t with
    | some s, some n => some (.box t n (plOf h) s)
    | _, _ => none
  | .build t ps => match zeroT P t, P.underlying t with
    | some z, some (.struct fs) => match placesT P fs with
      | some pl => (partsS pl ps.toList).map (.build z)
      | none => none
    | some z, some (.array _ e) => match sizeT P e with
      | some n => (partsA n ps.toList).map (.build z)
      | none => none
    | _, _ => none
  | .buildSlice t n ps => match P.underlying t with
    | some (.slice e) => match sizeT P e, zeroT P e, partsL 0 ps.toList with
      | some s, some _, some l => if l.length = n ∧ n * s ≤ 1000 ∧ s ≠ 0 then some (.bsl e s (plOf h) l) else none
      | _, _, _ => none
    | _ => none
  | .load t a => match loadT P t, srcOf a with
    | some (g, n), some s => some (.load g n s)
    | _, _ => none
  | .store t a x => match sizeT P t, srcOf a, srcOf x with
    | some n, some s, some x => some (.store n s x)
    | _, _, _ => none
  | .nilCheck x => (srcOf x).map .nilchk
  | .binOp op t x y _ => match P.underlying t, srcOf x, srcOf y with
    | some (.int _), some x, some y => some (.bin op x y)
    | some .bool, some x, some y | some (.struct _), some x, some y | some (.array _ _), some x, some y => match op, eqT P 8 t, aggT P t with
      | .eql, some ks, some g => if P.eqGuardType P.depth t then none else some (.eqa false g ks x y)
      | .neq, some ks, some g => if P.eqGuardType P.depth t then none else some (.eqa true g ks x y)
      | _, _, _ => none
    | _, _, _ => none
  | .unOp op _ x => (srcOf x).map (.un op)
  | .convert src dst x => match P.underlying src, P.underlying dst, srcOf x with
    | some _, some (.int k), some s => some (.conv k s)
    | _, _, _ => none
  | .makeFunc (.func f) first cap => match first.toList, srcsOf cap.toList with
    | [], some l => some (.fn f l)
    | _, _ => none
  | .makeSlice t n c => match P.underlying t, srcOf n, srcOf c with
    | some (.slice e), some s, some s' => match sizeT P e, bytesT P e, zeroT P e with
      | some sz, some by_, some z => match s, s' with
        | .t i, .t i' => if i = i' then some (.msl e sz by_ (plOf h) z s) else none
        | .v (.c (.int k a)), .v (.c (.int k' a')) => if a = a' ∧ k = k' then some (.msl e sz by_ (plOf h) z s) else none
        | _, _ => none
      | _, _, _ => none
    | _, _, _ => none
  | .slice t x lo hi mx => match P.underlying t, srcOf x, mx with
    | some (.slice e), some s, none => match sizeT P e, lo, hi with
      | some n, none, none => some (.sl n s none none)
      | some n, some l, none => (srcOf l).map fun l => .sl n s (some l) none
      | some n, none, some y => (srcOf y).map fun y => .sl n s none (some y)
      | some n, some l, some y => match srcOf l, srcOf y with
        | some l, some y => some (.sl n s (some l) (some y))
        | _, _ => none
      | _, _, _ => none
    | _, _, _ => none
  | .fieldAddr t x f => match P.underlying t, srcOf x with
    | some (.struct fs), some s => match fs[f]? with
      | some f => match sizeT P f.type with
        | some n => if n ≠ 0 then some (.faddr f.offset s) else none
        | none => none
      | none => none
    | _, _ => none
  | .field t x f => match P.underlying t, srcOf x with
    | some (.struct fs), some s => match fs[f]? with
      | some f => (loadT P f.type).map fun (g, n) => .field g f.offset n s
      | none => none
    | _, _ => none
  | .indexAddr t x i => match P.underlying t, srcOf x, srcOf i with
    | some (.slice e), some s, some i => (sizeT P e).map fun n => .iaddr n s i
    | some (.array len e), some s, some i => match sizeT P e with
      | some n => if 2 ≤ len then some (.iaddrA len n s i) else none
      | none => none
    | _, _, _ => none
  | .index t x i => match P.underlying t, srcOf x, srcOf i with
    | some (.array len e), some s, some i => (loadT P e).map fun (g, n) => .index g len n s i
    | _, _, _ => none
  | .extract x i => (srcOf x).map (.ext i)
  | .call c => match c.callee with
    | .builtin .len => match c.args.toList, c.argTypes[0]? with
      | [x], some t => match P.underlying t with
        | some (.slice _) => (srcOf x).map .len
        | some (.array n _) => if n ≤ 1000000 then some (.mv (.v (.c (.int .i64 n)))) else none
        | _ => none
      | _, _ => none
    | .builtin .max => match c.args.toList with
      | [x, y] => match srcOf x, srcOf y with
        | some x, some y => some (.mm true x y)
        | _, _ => none
      | _ => none
    | .builtin .min => match c.args.toList with
      | [x, y] => match srcOf x, srcOf y with
        | some x, some y => some (.mm false x y)
        | _, _ => none
      | _ => none
    | .builtin .append => match c.args.toList, c.argTypes.toList with
      | [x, y], [t, u] => match P.underlying t, P.underlying u, srcOf x, srcOf y with
        | some (.slice e), some (.slice _), some x, some y => match sizeT P e, bytesT P e, zeroT P e with
          | some s, some b, some z => if z.length = s ∧ s ≠ 0 then some (.app e s b (plOf h) x y) else none
          | _, _, _ => none
        | _, _, _, _ => none
      | _, _ => none
    | .value (.func f) => match P.funcs[f]?, srcsOf c.args.toList with
      | some fn, some l =>
        if fn.body.isSome then some (.call f l) else
        if fn.name = "math/bits.Add64" ∧ fn.origin = "" then match l with
          | [x, y, z] => some (.add64 x y z)
          | _ => none else
        if fn.name = "math/bits.Sub64" ∧ fn.origin = "" then match l with
          | [x, y, z] => some (.sub64 x y z)
          | _ => none else none
      | _, _ => none
    | .value f => match srcOf f, srcsOf c.args.toList with
      | some f, some l => some (.callv f l)
      | _, _ => none
    | _ => none
  | _ => none
def guardOf (ops : Array Oper) : Option (Nat × Bool) → Option (Option (Nat × Bool))
  | none => some none
  | some (g, want) => ((ops[g]?).bind (·.dst)).map fun d => some (d, want)
def V.isClosed (v : V) : Bool := match v with
  | .c (.int ..) | .c (.bool _) | .c .nilp | .c .nils | .c .nilf | .c .junk => true
  | .c (.fn _ []) => true
  | .agg cs => (cellsKeys cs).isEmpty
  | _ => false
def closedSrc : Src → Bool
  | .t _ => true
  | .v x => x.isClosed
def closedOp (o : IOp) : Bool := o.srcs.all closedSrc && (cellsKeys o.zero).isEmpty
def compOpers (P : Program) (nt : Nat) (ops : Array Oper) : List Oper → List IOper → Option (List IOper)
  | [], [] => some []
  | o :: r, h :: hr => match compOp P h.op o.op, guardOf ops o.guard, compOpers P nt ops r hr with
    | some i, some g, some r => if (o.dst.getD 0) < nt ∧ closedOp i = true then some (⟨o.dst, i, g⟩ :: r) else none
    | _, _, _ => none
  | _, _ => none
def isMem : IOp → Bool
  | .new .. | .box .. | .load .. | .store .. | .app .. | .bsl .. | .msl .. | .call .. | .callv .. => true
  | _ => false
def isLoad : IOp → Bool
  | .load .. => true
  | _ => false
def isMaker : IOp → Bool
  | .new .. | .box .. | .app .. | .bsl .. | .msl .. | .call .. | .callv .. => true
  | _ => false
/-- Must this pair, if it is not ordered, be looked at? -/
def both (a b : IOp) : Bool := isMem a && isMem b && !(isLoad a && isLoad b)
def swOk (sw : List Nat) (o : IOper) : Bool := !isMaker o.op || sw.contains (o.d.getD 0)
def looks (o : IOper) (t : Nat) : Bool := o.op.srcs.any (fun s => match s with | .t i => i == t | .v _ => false) || (match o.g with | some (g, _) => g == t | none => false)
/-- Neither names what the other writes. -/
def apartT (a b : IOper) : Bool :=
  (match a.d with | some t => !looks b t | none => true) && (match b.d with | some t => !looks a t | none => true) && (match a.d, b.d with | some s, some t => !(s == t) | _, _ => true)
/-- The pairs (i, j), i < j, of l's head and what follows it. -/
def unRow (sw : List Nat) (un : List (Nat × Nat)) (bj : Nat → Nat) (i : Nat) (a : IOper) : Nat → List IOper → Bool
  | _, [] => true
  | j, b :: r => ((bj j).testBit i || (apartT a b && (un.contains (i, j) || (!both a.op b.op && swOk sw a && swOk sw b)))) && unRow sw un bj i a (j + 1) r
def unOk (sw : List Nat) (un : List (Nat × Nat)) (bj : Nat → Nat) : Nat → List IOper → Bool
  | _, [] => true
  | i, a :: r => unRow sw un bj i a (i + 1) r && unOk sw un bj (i + 1) r
/-- Each operation stands behind those that it must follow. -/
def edgesOk : Nat → List Oper → Bool
  | _, [] => true
  | i, o :: r => o.after.toList.all (fun e => !Region.binds .any e || decide (e.on < i)) && edgesOk (i + 1) r
def befs : List Nat → List Oper → List Nat
  | acc, [] => acc
  | acc, o :: r => befs (acc ++ [o.after.toList.foldl (fun s e => if Region.binds .any e then s ||| 2 ^ e.on ||| acc.getD e.on 0 else s) 0]) r
def compC (P : Program) (nt : Nat) : Code → ICode → Option ICode
  | .skip, .skip => some .skip
  | .region _ ops draw, .reg _ sw un h => match compOpers P nt ops ops.toList h with
    | some l => if draw = false ∨ (edgesOk 0 ops.toList = true ∧ unOk sw un (fun j => (befs [] ops.toList).getD j 0) 0 l = true) then some (.reg draw sw un l) else none
    | none => none
  | .seq a b, .seq x y => match compC P nt a x, compC P nt b y with
    | some x, some y => some (.seq x y)
    | _, _ => none
  | .cond c a b, .cond _ x y => match srcOf c, compC P nt a x, compC P nt b y with
    | some s, some x, some y => some (.cond s x y)
    | _, _, _ => none
  | .block id b, .block _ x => (compC P nt b x).map (.block id)
  | .loop b, .loop tr bx x => (compC P nt b x).map (.loop tr bx)
  | .exit id, .exit _ => some (.exit id)
  | .ret, .ret => some .ret
  | _, _ => none
def compR (P : Program) : ResultVar → Option IRes
  | .tmp t => some (.tmp t)
  | .cell t ty => (loadT P ty).map fun (g, n) => .cell t g n
def compRs (P : Program) : List ResultVar → Option (List IRes)
  | [] => some []
  | r :: rs => match compR P r, compRs P rs with
    | some r, some rs => some (r :: rs)
    | _, _ => none
/-- Is F what function f comes to? -/
def compF (P : Program) (f : Nat) (F : IFun) : Option IFun :=
  match P.funcs[f]? with
  | some fn => match fn.body with
    | some c => if fn.name ≠ "runtime.NumGoroutine" ∧ F.np ≤ fn.ntmps then match compC P fn.ntmps c F.body, compRs P fn.results.toList with
      | some b, some r => some ⟨F.np, fn.ntmps, r, b⟩
      | _, _ => none else none
    | none => none
  | none => none
end Go.Ab

namespace Go.Ab
variable {P : Program}

/-! ### Constants -/
theorem cellOfV_rel {v : Value} {c : Cell} (h : cellOfV v = some c) (j : J) : RelC1 j c v ∧ c.keys = [] := by
  unfold cellOfV at h
  split at h <;> simp at h
  · obtain ⟨h1, rfl⟩ := h; exact ⟨⟨⟨rfl, h1⟩, rfl⟩, rfl⟩
  all_goals (subst h; exact ⟨⟨rfl, rfl⟩, rfl⟩)
theorem cellsOfL_rel (j : J) : ∀ {l : List Value} {cs : List Cell}, cellsOfL l = some cs → All2 (RelC1 j) cs l ∧ cellsKeys cs = []
  | [], _, h => by simp [cellsOfL] at h; subst h; exact ⟨trivial, rfl⟩
  | v :: r, cs, h => by
    simp only [cellsOfL] at h
    split at h <;> simp at h
    rename_i c r' h1 h2
    subst h
    have := cellsOfL_rel j h2
    have hc := cellOfV_rel h1 j
    exact ⟨⟨hc.1, this.1⟩, by simp [cellsKeys, hc.2, this.2]⟩
theorem vOfV_rel {v : Value} {x : V} (h : vOfV v = some x) (j : J) : RelV j x v ∧ x.keys = [] := by
  unfold vOfV at h
  split at h
  · rename_i cs
    simp only [Option.map_eq_some_iff] at h
    obtain ⟨l, h1, rfl⟩ := h
    have := cellsOfL_rel j h1
    exact ⟨⟨cs.toList, by simp, this.1⟩, this.2⟩
  · simp only [Option.map_eq_some_iff] at h
    obtain ⟨c, h1, rfl⟩ := h
    have := cellOfV_rel h1 j
    exact ⟨this.1.1, this.2⟩
/-- What an operand is. -/
theorem src_rel {nt : Nat} {w0 : World} {W : Wr} {j : J} {σ : St} {a : Act} {w : World} (hr : Rel nt w0 W j σ a w) {x : Operand} {s : Src} (h : srcOf x = some s) : RelV j (σ.ev s) (a.eval x) := by
  unfold srcOf at h
  split at h
  · simp at h; subst h; exact hr.env _
  · simp only [Option.map_eq_some_iff] at h
    obtain ⟨v, h1, rfl⟩ := h
    exact (vOfV_rel h1 j).1
  · simp at h; subst h; exact ⟨[], rfl, trivial⟩
  · simp at h
theorem src_keys {nt : Nat} {w0 : World} {W : Wr} {j : J} {σ : St} {a : Act} {w : World} (hr : Rel nt w0 W j σ a w) {x : Operand} {s : Src} (h : srcOf x = some s) : ∀ k ∈ (σ.ev s).keys, okK σ.cr k := by
  unfold srcOf at h
  split at h
  · simp at h; subst h; exact hr.ek _
  · simp only [Option.map_eq_some_iff] at h
    obtain ⟨v, h1, rfl⟩ := h
    intro k hk
    simp only [St.ev] at hk
    rw [(vOfV_rel h1 j).2] at hk; cases hk
  · simp at h; subst h; intro k hk; simp [St.ev, V.keys, V.keys1, Cell.keys] at hk
  · simp at h
theorem srcs_rel {nt : Nat} {w0 : World} {W : Wr} {j : J} {σ : St} {a : Act} {w : World} (hr : Rel nt w0 W j σ a w) : ∀ {xs : List Operand} {ss : List Src}, srcsOf xs = some ss → All2 (RelV j) (srcs σ.ev ss) (xs.map a.eval)
  | [], _, h => by simp [srcsOf] at h; subst h; trivial
  | x :: r, _, h => by
    simp only [srcsOf] at h
    split at h <;> simp at h
    rename_i s r' h1 h2
    subst h
    exact ⟨src_rel hr h1, srcs_rel hr h2⟩

/-! ### What a type tells -/
theorem run_under {t : TypeId} {d : TypeDesc} (h : P.underlying t = some d) (w : World) : (underlying t).run P w = .ok d w := by simp [underlying, h]
theorem run_size {t : TypeId} {n : Nat} (h : sizeT P t = some n) (w : World) : (sizeOf t).run P w = .ok n w := by
  unfold sizeT at h
  cases hi : P.info? t with
  | none => simp [hi] at h
  | some i => simp [hi] at h; simp [sizeOf, typeInfo, hi, h]
theorem run_isAgg {t : TypeId} {b : Bool} (h : aggT P t = some b) (w : World) : (isAgg t).run P w = .ok b w := by
  unfold aggT at h
  split at h <;> simp at h <;> subst h
  · rename_i h; simp [isAgg, run_under h]
  · rename_i h; simp [isAgg, run_under h]
  · rename_i d h1 h2 h; simp only [isAgg, Sem.run_bind, run_under h, Result.andThen_ok]; cases d <;> simp_all
theorem run_zero {t : TypeId} {z : List Cell} (h : zeroT P t = some z) (w : World) : ∃ v : Value, (zeroValue t).run P w = .ok v w ∧ (∀ j, All2 (RelC1 j) z v.cells.toList) ∧ cellsKeys z = [] := by
  unfold zeroT at h
  simp only [Option.bind_eq_some_iff] at h
  obtain ⟨v, ⟨i, hi, hz⟩, hc⟩ := h
  exact ⟨v, by simp [zeroValue, typeInfo, hi, hz], fun j => (cellsOfL_rel j hc).1, (cellsOfL_rel (fun _ => none) hc).2⟩

/-! ### Cells of a value -/
theorem cells_rel {j : J} {x : V} {v : Value} {cs : List Cell} (h : x.cells = some cs) (hr : RelV j x v) : All2 (RelC1 j) cs v.cells.toList := by
  cases x with
  | c x =>
    have hone : v.oneCell' = true ∧ RelC j x v := by
      refine ⟨?_, hr⟩
      cases x <;> simp [V.cells] at h <;> simp only [RelV, RelV1, RelC] at hr
      · obtain ⟨rfl, _⟩ := hr; rfl
      · subst hr; rfl
      · obtain ⟨_, _, rfl⟩ := hr; rfl
      · subst hr; rfl
      · obtain ⟨_, ⟨_, _, _, _, _, rfl, _⟩ | ⟨_, _, rfl⟩⟩ := hr <;> rfl
      · subst hr; rfl
      · obtain ⟨_, rfl, _⟩ := hr; rfl
      · subst hr; rfl
    have hcs : cs = [x] := by cases x <;> simp [V.cells] at h <;> exact h.symm
    subst hcs
    have : v.cells = #[v] := by cases v <;> simp_all [Value.cells, Value.oneCell']
    rw [this]
    exact ⟨⟨hone.2, hone.1⟩, trivial⟩
  | agg l =>
    simp [V.cells] at h; subst h
    obtain ⟨vs, rfl, h2⟩ := hr
    exact h2
  | tup l => simp [V.cells] at h
theorem cells_keys {x : V} {cs : List Cell} (h : x.cells = some cs) : ∀ k ∈ cellsKeys cs, k ∈ x.keys := by
  cases x with
  | c x =>
    have hcs : cs = [x] := by cases x <;> simp [V.cells] at h <;> exact h.symm
    subst hcs; intro k hk; simpa [cellsKeys, V.keys, V.keys1] using hk
  | agg l => simp [V.cells] at h; subst h; intro k hk; exact hk
  | tup l => simp [V.cells] at h
theorem All2.ones {j : J} : ∀ {cs : List Cell} {vs : List Value}, All2 (RelC1 j) cs vs → ∀ v ∈ vs, v.oneCell' = true
  | [], [], _, v, h => by cases h
  | _ :: _, _ :: _, h, v, hv => by
    rcases List.mem_cons.1 hv with rfl | hv
    · exact h.1.2
    · exact All2.ones h.2 v hv
theorem mkV_rel {j : J} {g : Bool} {cs : List Cell} {x : V} {vs : List Value} (h : mkV g cs = some x) (hr : All2 (RelC1 j) cs vs) :
    (g = true → RelV j x (.agg vs.toArray)) ∧ (g = false → ∃ v, vs = [v] ∧ RelV j x v) := by
  unfold mkV at h
  split at h <;> simp at h <;> subst h
  · exact ⟨fun _ => ⟨vs, rfl, hr⟩, fun h => by simp at h⟩
  · refine ⟨fun h => by simp at h, fun _ => ?_⟩
    match vs, hr with
    | [v], hr => exact ⟨v, rfl, hr.1.1⟩
theorem mkV_keys {g : Bool} {cs : List Cell} {x : V} (h : mkV g cs = some x) : ∀ k ∈ x.keys, k ∈ cellsKeys cs := by
  unfold mkV at h
  split at h <;> simp at h <;> subst h
  · intro k hk; exact hk
  · intro k hk; simpa [cellsKeys, V.keys, V.keys1] using hk
theorem run_loadVar {t : TypeId} {g : Bool} {n : Nat} (h : loadT P t = some (g, n)) (w : World) (ad : Addr) (cs : List Value) (hl : cs.length = n) (hc : ∀ i v, cs[i]? = some v → w.cell? (ad.add i) = some v) :
    (loadVar t ad).run P w = .ok (if g then .agg cs.toArray else cs.getD 0 undef) w := by
  unfold loadT at h
  split at h
  · rename_i ha hs
    simp at h; obtain ⟨rfl, rfl⟩ := h
    simp only [loadVar, Sem.run_bind, run_isAgg ha, Result.andThen_ok, if_true, run_size hs, ← hl, run_loadCells_list w ad cs hc, Sem.run_pure]
  · rename_i m ha hs
    split at h <;> simp at h
    obtain ⟨rfl, rfl⟩ := h
    match cs, hl with
    | [v], _ =>
      have := hc 0 v rfl
      have e : ad.add 0 = ad := by simp [Addr.add]
      rw [e] at this
      simp only [loadVar, Sem.run_bind, run_isAgg ha, Result.andThen_ok]
      simp [this]
  · simp at h
theorem addrOf_add (p : Place) (i o k : Nat) : (addrOf p i o).add k = addrOf p i (o + k) := by
  unfold addrOf Addr.add
  split
  · simp_all
  · simp; omega
/-- A row's cells, read. -/
theorem row_reads {j : J} {b : Blk} {p : Place} {w : World} (hb : RelB j b p w) {i : Nat} {e : List Cell} (he : b.els[i]? = some e) (o n : Nat) (hn : o + n ≤ e.length) :
    ∃ vs : List Value, vs.length = n ∧ All2 (RelC1 j) ((e.drop o).take n) vs ∧ ∀ m v, vs[m]? = some v → w.cell? ((addrOf p i o).add m) = some v := by
  have key : ∀ n, o + n ≤ e.length → ∃ vs : List Value, vs.length = n ∧ (∀ (m : Nat) (c : Cell) (v : Value), (e.drop o)[m]? = some c → vs[m]? = some v → RelC1 j c v) ∧ ∀ (m : Nat) (v : Value), vs[m]? = some v → w.cell? ((addrOf p i o).add m) = some v := by
    intro n
    induction n with
    | zero => intro _; exact ⟨[], rfl, fun m c v _ h => by simp at h, fun m v h => by simp at h⟩
    | succ n ih =>
      intro hn
      obtain ⟨vs, h1, h2, h3⟩ := ih (by omega)
      have hlt : o + n < e.length := by omega
      obtain ⟨v, hv, hc⟩ := hb.rd i e he (o + n) (e[o + n]) (by simp [hlt])
      refine ⟨vs ++ [v], by simp [h1], fun m c u hc' hu => ?_, fun m u hu => ?_⟩
      · rw [List.getElem?_append] at hu
        split at hu
        · exact h2 m c u hc' hu
        · rename_i hm
          have : m = n := by
            rcases Nat.lt_or_ge (m - vs.length) 1 with h | h
            · omega
            · rw [List.getElem?_eq_none (by simpa using h)] at hu; cases hu
          subst this
          simp [h1] at hu; subst hu
          simp [hlt] at hc'; subst hc'; exact hc
      · rw [List.getElem?_append] at hu
        split at hu
        · exact h3 m u hu
        · rename_i hm
          have : m = n := by
            rcases Nat.lt_or_ge (m - vs.length) 1 with h | h
            · omega
            · rw [List.getElem?_eq_none (by simpa using h)] at hu; cases hu
          subst this
          simp [h1] at hu; subst hu
          rw [addrOf_add]; exact hv
  obtain ⟨vs, h1, h2, h3⟩ := key n hn
  refine ⟨vs, h1, All2.of_get (by simp; omega) fun m c v hc hv => ?_, h3⟩
  rw [List.getElem?_take] at hc
  split at hc
  · exact h2 m c v hc hv
  · cases hc
end Go.Ab

namespace Go.Ab
variable {P : Program}

/-- What is left behind an operation, of what it did alone. -/
def lastW (k : Key) : List (Key × Option Blk) → Option (Option Blk)
  | [] => none
  | (k', b) :: r => match lastW k r with
    | some x => some x
    | none => if k' = k then some b else none
structure Post (j j' : J) (get : Key → Option Blk) (e : Eff) (v : Value) (w w' : World) : Prop where
  jk : ∀ k, (∀ n ∈ e.n, k ≠ .l n) → j' k = j k
  v : RelV j' e.v v
  non : ∀ k b, lastW k e.w = some (some b) → j' k = none → b.els = []
  som : ∀ k b p, lastW k e.w = some (some b) → j' k = some p → RelB j' b p w'
  dis : ∀ k k' b b' p p', lastW k e.w = some (some b) → lastW k' e.w = some (some b') → k ≠ k' → b.own = true → j' k = some p → j' k' = some p' → p.block ≠ p'.block
  ow : ∀ k b, lastW k e.w = some (some b) → b.own = true
  fr : RelW w (fun i => ∃ k b p, get k = some b ∧ b.own = true ∧ j k = some p ∧ p.block = i ∧ (lastW k e.w).isSome = true) w'
  nw : ∀ k b p, lastW k e.w = some (some b) → j' k = some p → w.heap.size ≤ p.block ∨ ∃ k0 b0 p0, get k0 = some b0 ∧ b0.own = true ∧ j k0 = some p0 ∧ p0.block = p.block ∧ (lastW k0 e.w).isSome = true
def Done (P : Program) (o : Oper) (a : Act) (w : World) (post : Value → World → Prop) : Prop :=
  (∃ v w', (execOp a.eval o).run P w = .ok (.value v) w' ∧ post v w') ∨
  (∃ w', (execOp a.eval o).run P w = .ok .skip w' ∧ post undef w') ∨
  ∃ f args w1, (execOp a.eval o).run P w = .ok (.enter f args) w1 ∧ Calls P f args w1 fun e w' => ∃ v, e = .returned v ∧ post v w'
theorem Done.wp {o : Oper} {a : Act} {w : World} {post : Value → World → Prop} (h : Done P o a w post) {K : Act → World → Prop} {Q : Exit → Act → World → Prop}
    (hk : ∀ v w', post v w' → K (a.put o.dst v) w') : o.wp P a w K Q := by
  unfold Oper.wp
  rcases h with ⟨v, w', h1, h2⟩ | ⟨w', h1, h2⟩ | ⟨f, args, w1, h1, h2⟩
  · rw [h1]; exact hk v w' h2
  · rw [h1]; exact hk undef w' h2
  · rw [h1]; simp only [Oper.upon]
    refine Calls.mono h2 ?_
    rintro e w' ⟨v, rfl, hp⟩
    exact hk v w' hp
/-- An operation that only tells a value. -/
theorem Post.pure {j : J} {get : Key → Option Blk} {x : V} {r : List Key} {v : Value} {w : World} (h : RelV j x v) : Post j j get ⟨x, r, [], []⟩ v w w :=
  ⟨fun _ _ => rfl, h, fun _ _ h => by simp [lastW] at h, fun _ _ _ h => by simp [lastW] at h, fun _ _ _ _ _ _ h => by simp [lastW] at h, fun _ _ h => by simp [lastW] at h, RelW.refl _ _, fun _ _ _ h => by simp [lastW] at h⟩
section
variable {nt : Nat} {w0 : World} {W : Wr} {j : J} {σ : St} {a : Act} {w : World}
abbrev Goal (P : Program) (j : J) (σ : St) (a : Act) (w : World) (o : Oper) (e : Eff) : Prop := Done P o a w fun v w' => ∃ j', Post j j' σ.get e v w w'
theorem done_val {o : Oper} {x : V} {r : List Key} {v : Value} (h : (execOp a.eval o).run P w = .ok (.value v) w) (hv : RelV j x v) : Goal P j σ a w o ⟨x, r, [], []⟩ :=
  .inl ⟨v, w, h, j, Post.pure hv⟩

/-! ### A new block -/
theorem flat_get {α : Type} {n : Nat} : ∀ {els : List (List α)}, (∀ e ∈ els, e.length = n) → ∀ {i o : Nat} {e : List α} {c : α}, els[i]? = some e → e[o]? = some c → els.flatten[i * n + o]? = some c
  | [], _, i, o, e, c, h, _ => by simp at h
  | x :: r, hl, 0, o, e, c, h, hc => by
    simp at h; subst h
    have ho : o < x.length := by
      rcases Nat.lt_or_ge o x.length with h | h
      · exact h
      · rw [List.getElem?_eq_none h] at hc; cases hc
    simp only [List.flatten_cons, Nat.zero_mul, Nat.zero_add]
    rw [List.getElem?_append_left ho]; exact hc
  | x :: r, hl, i + 1, o, e, c, h, hc => by
    have hx : x.length = n := hl x (by simp)
    have := flat_get (els := r) (fun e he => hl e (List.mem_cons_of_mem _ he)) (i := i) (o := o) (by simpa using h) hc
    simp only [List.flatten_cons]
    rw [List.getElem?_append_right (by rw [hx, Nat.succ_mul]; omega), hx, show (i + 1) * n + o - n = i * n + o by rw [Nat.succ_mul]; omega]
    exact this
theorem flat_len {α : Type} {n : Nat} : ∀ {els : List (List α)}, (∀ e ∈ els, e.length = n) → els.flatten.length = els.length * n
  | [], _ => by simp
  | x :: r, hl => by
    have := flat_len (els := r) (fun e he => hl e (by simp [he]))
    simp [hl x (by simp), Nat.succ_mul, -List.length_flatten, this]; omega
theorem lastW_one {k k' : Key} {b : Option Blk} {x : Option Blk} (h : lastW k [(k', b)] = some x) : k = k' ∧ x = b := by
  simp only [lastW] at h
  split at h
  · rename_i hk; simp at h; exact ⟨hk.symm, h.symm⟩
  · cases h
theorem newRow_post {get : Key → Option Blk} {d T n cap : Nat} {pl : Bool} {els : List (List Cell)} {vs rest : List Value} {x : Place → V} {v : Value}
    (hz : ∀ j' : J, (∀ k, k ≠ .l d → j' k = j k) → All2 (RelC1 j') els.flatten vs) (hl : ∀ e ∈ els, e.length = n) (hp : pl = true → ∀ e ∈ els, allPlain e = true) (hcap : els.length ≤ cap) (hsz : (vs ++ rest).length = cap * n)
    (hx : ∀ j' : J, j' (.l d) = some ⟨w.heap.size, 0, n, cap, true⟩ → RelV j' (x ⟨w.heap.size, 0, n, cap, true⟩) v) {r : List Key} {w1 : World} (hw1 : w1.heap = w.heap.push (.cells (vs ++ rest).toArray T)) (h1 : w1.os = w.os) (h2 : w1.tape = w.tape) (h3 : w1.output = w.output) :
    ∃ j', Post j j' get ⟨x ⟨w.heap.size, 0, n, cap, true⟩, r, [(.l d, some ⟨T, n, true, pl, els⟩)], [d]⟩ v w w1 := by
  let p : Place := ⟨w.heap.size, 0, n, cap, true⟩
  let j' : J := fun k => if k = .l d then some p else j k
  have hj : ∀ k, k ≠ .l d → j' k = j k := fun k hk => by simp [j', hk]
  have hd : j' (.l d) = some p := by simp [j']
  have hv := hz j' hj
  have hheap : w1.heap[w.heap.size]? = some (.cells (vs ++ rest).toArray T (0, 0)) := by rw [hw1]; simp
  have hB : RelB j' ⟨T, n, true, pl, els⟩ p w1 := by
    refine ⟨by rw [hw1]; simp [p], rfl, rfl, hl, hp, ?_, ?_⟩
    · intro i e he o c hc
      obtain ⟨u, h1, h2⟩ := hv.get (flat_get hl he hc)
      refine ⟨u, ?_, h2⟩
      have hlt : i * n + o < vs.length := by
        rcases Nat.lt_or_ge (i * n + o) vs.length with h | h
        · exact h
        · rw [List.getElem?_eq_none h] at h1; cases h1
      simp only [World.cell?, addrOf, p, hheap, Nat.zero_add]
      simp [List.getElem?_append_left hlt, h1]
    · intro _
      exact ⟨rfl, hcap, (vs ++ rest).toArray, hheap, by simpa [p] using hsz⟩
  refine ⟨j', ⟨fun k hk => hj k (hk d (by simp)), hx j' hd, ?_, ?_, ?_, ?_, ?_, ?_⟩⟩
  · intro k b h hn; obtain ⟨rfl, hb⟩ := lastW_one h; rw [hd] at hn; cases hn
  · intro k b q h hq; obtain ⟨rfl, hb⟩ := lastW_one h; simp only [Option.some.injEq] at hb; subst hb; rw [hd] at hq; cases hq; exact hB
  · intro k k' b b' q q' h h' hne; obtain ⟨rfl, hb⟩ := lastW_one h; obtain ⟨rfl, hb'⟩ := lastW_one h'; exact absurd rfl hne
  · intro k b h; obtain ⟨rfl, hb⟩ := lastW_one h; simp only [Option.some.injEq] at hb; subst hb; rfl
  · exact ⟨h1, h2, h3, by rw [hw1]; simp, fun i hi _ => by rw [hw1]; simp [Array.getElem?_push, Nat.ne_of_lt hi]⟩
  · intro k b q h hq; obtain ⟨rfl, hb⟩ := lastW_one h; rw [hd] at hq; cases hq; exact .inl (Nat.le_refl _)
theorem rel_keys_congr {j' : J} {x : V} {v : Value} {d : Nat} (hk : Key.l d ∉ x.keys) (hr : RelV j x v) (h : ∀ k, k ≠ .l d → j' k = j k) : RelV j' x v :=
  hr.congr fun k hm => h k fun e => hk (e ▸ hm)
theorem cells_keys_congr {j' : J} : ∀ {cs : List Cell} {vs : List Value} {d : Nat}, Key.l d ∉ cellsKeys cs → All2 (RelC1 j) cs vs → (∀ k, k ≠ .l d → j' k = j k) → All2 (RelC1 j') cs vs :=
  fun hk hr h => hr.impM fun _ hc _ hv => hv.congr fun k hm => h k fun e => hk (e ▸ mem_cellsKeys hc hm)
end
end Go.Ab

namespace Go.Ab
variable {P : Program} {nt : Nat} {w0 : World} {W : Wr} {j : J} {σ : St} {a : Act} {w : World} {o : Oper}

theorem ex_mv {x : Operand} (h : o.op = .move x ∨ o.op = .assign x) : (execOp a.eval o).run P w = .ok (.value (a.eval x)) w := by
  rcases h with h | h <;> simp [execOp, h]
theorem op_mv (hr : Rel nt w0 W j σ a w) {x : Operand} {s : Src} (h : o.op = .move x ∨ o.op = .assign x) (hs : srcOf x = some s) {call : CallF} {d : Nat} {e : Eff} (hf : fp call σ.ev σ.get d (.mv s) = some e) : Goal P j σ a w o e := by
  simp [fp, pure1] at hf; subst hf
  exact done_val (ex_mv h) (src_rel hr hs)
theorem op_pick (hr : Rel nt w0 W j σ a w) {c x y : Operand} {s1 s2 s3 : Src} (h : o.op = .pick c x y) (hc : srcOf c = some s1) (hx : srcOf x = some s2) (hy : srcOf y = some s3) {call : CallF} {d : Nat} {e : Eff} (hf : fp call σ.ev σ.get d (.pick s1 s2 s3) = some e) : Goal P j σ a w o e := by
  simp only [fp] at hf
  split at hf <;> simp [pure1] at hf
  rename_i t ht
  subst hf
  have h1 := src_rel hr hc
  rw [ht] at h1
  have h1 : a.eval c = .bool t := h1
  cases t
  · exact done_val (v := a.eval y) (by simp [execOp, h, h1, asBool]) (by simpa using src_rel hr hy)
  · exact done_val (v := a.eval x) (by simp [execOp, h, h1, asBool]) (by simpa using src_rel hr hx)
theorem op_ext (hr : Rel nt w0 W j σ a w) {x : Operand} {s : Src} {i : Nat} (h : o.op = .extract x i) (hs : srcOf x = some s) {call : CallF} {d : Nat} {e : Eff} (hf : fp call σ.ev σ.get d (.ext i s) = some e) : Goal P j σ a w o e := by
  simp only [fp] at hf
  split at hf
  · rename_i vs hv
    split at hf <;> simp [pure1] at hf
    rename_i v hi
    subst hf
    have h1 := src_rel hr hs
    rw [hv] at h1
    obtain ⟨ws, h1, h2⟩ := h1
    obtain ⟨u, h3, h4⟩ := h2.get hi
    refine done_val (v := u) (by simp [execOp, h, h1, Instr.extract, h3]) ?_
    cases v with
    | tup l => exact h4.elim
    | c x => exact h4
    | agg l => exact h4
  · cases hf
theorem int_of {x : Operand} {s : Src} {k : IntKind} {n : Int} (hr : Rel nt w0 W j σ a w) (hs : srcOf x = some s) (h : σ.ev s = .c (.int k n)) : a.eval x = .int k n ∧ inK k n := by
  have := src_rel hr hs
  rw [h] at this; exact this
theorem op_conv (hr : Rel nt w0 W j σ a w) {x : Operand} {s : Src} {t u : TypeId} {k : IntKind} {dt : TypeDesc} (h : o.op = .convert t u x) (ht : P.underlying t = some dt) (hu : P.underlying u = some (.int k)) (hs : srcOf x = some s) {call : CallF} {d : Nat} {e : Eff} (hf : fp call σ.ev σ.get d (.conv k s) = some e)
    (hw : ∀ n, inK k (k.wrap n)) : Goal P j σ a w o e := by
  simp only [fp] at hf
  split at hf <;> simp [pure1] at hf
  rename_i k' n hn
  subst hf
  have h1 := int_of hr hs hn
  exact done_val (v := .int k (k.wrap n)) (by simp [execOp, h, convert, run_under ht, run_under hu, h1.1, Conv.intToInt]) ⟨rfl, hw n⟩
theorem op_faddr (hr : Rel nt w0 W j σ a w) {x : Operand} {s : Src} {t : TypeId} {fs : Array Field} {i : Nat} {f : Field} {n : Nat} (h : o.op = .fieldAddr t x i) (ht : P.underlying t = some (.struct fs)) (hfi : fs[i]? = some f) (hn : sizeT P f.type = some n) (h0 : n ≠ 0) (hs : srcOf x = some s) {call : CallF} {d : Nat} {e : Eff} (hf : fp call σ.ev σ.get d (.faddr f.offset s) = some e) : Goal P j σ a w o e := by
  simp only [fp] at hf
  split at hf <;> simp [pure1] at hf
  rename_i p hp
  subst hf
  have h1 := src_rel hr hs
  rw [hp] at h1
  obtain ⟨pl, h1, h2⟩ := h1
  refine done_val (v := .pointer (some (addrOf pl p.i (p.o + f.offset)))) ?_ ⟨pl, h1, rfl⟩
  simp [execOp, h, Instr.fieldAt, run_under ht, hfi, h2, Instr.sureAddr, fieldPlace, run_size hn, h0, addrOf_add]
theorem op_nilchk (hr : Rel nt w0 W j σ a w) {x : Operand} {s : Src} (h : o.op = .nilCheck x) (hs : srcOf x = some s) {call : CallF} {d : Nat} {e : Eff} (hf : fp call σ.ev σ.get d (.nilchk s) = some e) : Goal P j σ a w o e := by
  simp only [fp] at hf
  have h1 := src_rel hr hs
  split at hf <;> simp [pure1] at hf <;> subst hf
  · rename_i p hp
    rw [hp] at h1
    have h2 := h1
    obtain ⟨pl, h1, h3⟩ := h2
    exact done_val (v := a.eval x) (by simp [execOp, h, h3]) (by rw [h3]; exact ⟨pl, h1, rfl⟩)
  · rename_i f l hp
    rw [hp] at h1
    obtain ⟨vs, h1, h3⟩ := h1
    exact done_val (v := a.eval x) (by simp [execOp, h, h1]) ⟨vs, h1, h3⟩
theorem op_len (hr : Rel nt w0 W j σ a w) {x : Operand} {s : Src} {c : Call} {t e' : TypeId} (h : o.op = .call c) (hb : c.callee = .builtin .len) (hx : c.args.toList = [x]) (ht : c.argTypes[0]? = some t) (hu : P.underlying t = some (.slice e')) (hs : srcOf x = some s) {call : CallF} {d : Nat} {e : Eff} (hf : fp call σ.ev σ.get d (.len s) = some e) : Goal P j σ a w o e := by
  have hargs : c.args = #[x] := by rw [← Array.toList_inj]; simpa using hx
  have h1 := src_rel hr hs
  have hrun : ∀ b n cap, a.eval x = .slice b n cap → (execOp a.eval o).run P w = .ok (.value (.int .i64 n)) w := by
    intro b n cap hv
    simp [execOp, h, resolve, hb, invoke, builtin, Builtin.len_, hargs, ht, hv, run_under hu, goInt]
  simp only [fp] at hf
  split at hf <;> simp [pure1] at hf <;> subst hf
  · rename_i hp
    rw [hp] at h1
    exact done_val (by simpa using hrun _ _ _ h1) ⟨rfl, by unfold inK; decide⟩
  · rename_i k z i n hp
    rw [hp] at h1
    obtain ⟨hn, h1⟩ := h1
    have hin : inK .i64 (n : Int) := by unfold maxS at hn; constructor <;> simp [IntKind.min, IntKind.max, IntKind.signed, IntKind.bits] <;> omega
    rcases h1 with ⟨pl, cap, b, _, _, hv, _⟩ | ⟨_, rfl, hv⟩
    · exact done_val (hrun _ _ _ hv) ⟨rfl, hin⟩
    · exact done_val (hrun _ _ _ hv) ⟨rfl, hin⟩
theorem op_load (hr : Rel nt w0 W j σ a w) {x : Operand} {s : Src} {t : TypeId} {g : Bool} {n : Nat} (h : o.op = .load t x) (ht : loadT P t = some (g, n)) (hs : srcOf x = some s) {call : CallF} {d : Nat} {e : Eff} (hf : fp call σ.ev σ.get d (.load g n s) = some e) : Goal P j σ a w o e := by
  simp only [fp] at hf
  split at hf
  · rename_i p hp
    split at hf
    · rename_i b hb
      split at hf
      · rename_i el hel
        split at hf
        · rename_i hle
          simp only [Option.map_eq_some_iff] at hf
          obtain ⟨v, hv, rfl⟩ := hf
          have h1 := src_rel hr hs
          rw [hp] at h1
          obtain ⟨pl, h1, h2⟩ := h1
          have hB := hr.hp.som _ _ _ hb h1
          obtain ⟨vs, hl, hrel, hrd⟩ := row_reads hB hel p.o n hle
          have hrun := run_loadVar ht w (addrOf pl p.i p.o) vs hl hrd
          have hm := mkV_rel hv hrel
          refine done_val (v := if g then .agg vs.toArray else vs.getD 0 undef) (by simp [execOp, h, Instr.loadAt, h2, Instr.sureAddr, hrun]) ?_
          cases g
          · obtain ⟨u, hu, hu2⟩ := hm.2 rfl
            subst hu; simpa using hu2
          · simpa using hm.1 rfl
        · cases hf
      · cases hf
    · cases hf
  · cases hf
theorem op_field (hr : Rel nt w0 W j σ a w) {x : Operand} {s : Src} {t : TypeId} {fs : Array Field} {i : Nat} {f : Field} {g : Bool} {n : Nat} (h : o.op = .field t x i) (ht : P.underlying t = some (.struct fs)) (hfi : fs[i]? = some f) (hn : loadT P f.type = some (g, n)) (hs : srcOf x = some s) {call : CallF} {d : Nat} {e : Eff} (hf : fp call σ.ev σ.get d (.field g f.offset n s) = some e) : Goal P j σ a w o e := by
  simp only [fp] at hf
  split at hf
  · rename_i cs hc
    split at hf
    · rename_i hle
      simp only [Option.map_eq_some_iff] at hf
      obtain ⟨v, hv, rfl⟩ := hf
      have h1 := src_rel hr hs
      rw [hc] at h1
      obtain ⟨vs, h1, h2⟩ := h1
      have hl := h2.length
      have hm := mkV_rel hv ((h2.drop f.offset).take n)
      have hpart : (part f.type vs.toArray f.offset).run P w = .ok (if g then .agg ((vs.drop f.offset).take n).toArray else ((vs.drop f.offset).take n).getD 0 undef) w := by
        unfold loadT at hn
        split at hn
        · rename_i ha hsz
          simp at hn; obtain ⟨rfl, rfl⟩ := hn
          simp [part, run_isAgg ha, run_size hsz, Nat.add_sub_cancel_left]
        · rename_i m ha hsz
          split at hn <;> simp at hn
          obtain ⟨rfl, rfl⟩ := hn
          have hlt : f.offset < vs.length := by omega
          simp [part, run_isAgg ha, List.getElem?_eq_getElem hlt]
        · cases hn
      refine done_val (v := if g then .agg ((vs.drop f.offset).take n).toArray else ((vs.drop f.offset).take n).getD 0 undef) (by simp [execOp, h, Instr.field, run_under ht, hfi, h1, asAgg, hpart]) ?_
      cases g
      · obtain ⟨u, hu, hu2⟩ := hm.2 rfl
        rw [hu]; simpa using hu2
      · simpa using hm.1 rfl
    · cases hf
  · cases hf
end Go.Ab

namespace Go.Ab
variable {P : Program} {nt : Nat} {w0 : World} {W : Wr} {j : J} {σ : St} {a : Act} {w : World} {o : Oper}

/-! ### Ranges -/
theorem wrap_in (k : IntKind) (n : Int) : inK k (k.wrap n) := by
  cases k <;> simp only [inK, IntKind.wrap, IntKind.min, IntKind.max, IntKind.signed, IntKind.bits, Bool.true_and, Bool.false_and, Bool.false_eq_true, if_false, if_true] <;> (try split) <;> (try simp at *) <;> omega
theorem zero_in (k : IntKind) : k.min ≤ 0 ∧ 0 ≤ k.max := by cases k <;> simp [IntKind.min, IntKind.max, IntKind.signed, IntKind.bits]
theorem tmod_abs (a b : Int) : (a.tmod b).natAbs ≤ a.natAbs := by
  rw [Int.natAbs_tmod]; exact Nat.mod_le _ _
theorem tmod_in {k : IntKind} {a b : Int} (h : inK k a) : inK k (a.tmod b) := by
  have hz := zero_in k
  obtain ⟨h1, h2⟩ := h
  rcases Int.le_total 0 a with h0 | h0
  · have hn := Int.tmod_nonneg b h0
    have hle := tmod_abs a b
    exact ⟨by omega, by omega⟩
  · have e : a.tmod b = -((-a).tmod b) := by rw [Int.neg_tmod]; omega
    have hn := Int.tmod_nonneg b (a := -a) (by omega)
    have hle := tmod_abs (-a) b
    exact ⟨by omega, by omega⟩
theorem fdiv_in {k : IntKind} {a : Int} {n : Nat} (h : inK k a) : inK k (a.fdiv (2 ^ n)) := by
  have hz := zero_in k
  obtain ⟨h1, h2⟩ := h
  have hp : (0 : Int) < 2 ^ n := Int.pow_pos (by omega)
  have e : a.fdiv (2 ^ n) = a / 2 ^ n := Int.fdiv_eq_ediv_of_nonneg a (Int.le_of_lt hp)
  rw [e]
  rcases Int.le_total 0 a with h0 | h0
  · have := Int.ediv_nonneg h0 (Int.le_of_lt hp)
    have := Int.ediv_le_self (2 ^ n) h0
    exact ⟨by omega, by omega⟩
  · have hlo : a ≤ a / 2 ^ n := by
      rw [Int.le_ediv_iff_mul_le hp]
      have : (1 : Int) ≤ 2 ^ n := hp
      have := Int.mul_le_mul_of_nonpos_left h0 this
      omega
    have hhi : a / 2 ^ n ≤ 0 := by
      have := Int.ediv_le_ediv hp h0
      simpa using this
    exact ⟨by omega, by omega⟩
theorem op_bin (hr : Rel nt w0 W j σ a w) {op : BinOp} {x y : Operand} {s1 s2 : Src} {t yt : TypeId} (h : o.op = .binOp op t x y yt) (hx : srcOf x = some s1) (hy : srcOf y = some s2) {call : CallF} {d : Nat} {e : Eff} (hf : fp call σ.ev σ.get d (.bin op s1 s2) = some e) : Goal P j σ a w o e := by
  simp only [fp] at hf
  split at hf
  · rename_i c1 c2 h1 h2
    split at hf <;> simp [pure1] at hf
    rename_i r hb
    subst hf
    have hr1 := src_rel hr hx
    have hr2 := src_rel hr hy
    rw [h1] at hr1; rw [h2] at hr2
    cases c1 <;> try (simp [binC] at hb; done)
    cases c2 <;> try (simp [binC] at hb; done)
    rename_i k m k' n
    obtain ⟨e1, i1⟩ : a.eval x = .int k m ∧ inK k m := hr1
    obtain ⟨e2, i2⟩ : a.eval y = .int k' n ∧ inK k' n := hr2
    have hg : (eqGuard op t x y (a.eval x) (a.eval y)).run P w = .ok () w := by
      rw [e1, e2]; unfold eqGuard; cases op <;> simp
    have key : ∀ v, (binOp op t (a.eval x) (a.eval y)).run P w = .ok v w → RelV j (.c r) v → Goal P j σ a w o ⟨.c r, [], [], []⟩ := fun v hv hrel =>
      done_val (v := v) (by simp [execOp, h, hg, hv]) hrel
    rw [e1, e2] at key
    cases op <;> simp only [binC] at hb
    case add => split at hb <;> simp at hb; rename_i hk; subst hk; subst hb; exact key _ (by simp [binOp, Op.intArith]) ⟨rfl, wrap_in _ _⟩
    case sub => split at hb <;> simp at hb; rename_i hk; subst hk; subst hb; exact key _ (by simp [binOp, Op.intArith]) ⟨rfl, wrap_in _ _⟩
    case mul => split at hb <;> simp at hb; rename_i hk; subst hk; subst hb; exact key _ (by simp [binOp, Op.intArith]) ⟨rfl, wrap_in _ _⟩
    case quo => split at hb <;> simp at hb; rename_i hk; obtain ⟨hk, hn⟩ := hk; subst hk; subst hb; exact key _ (by simp [binOp, Op.intDiv, hn]) ⟨rfl, wrap_in _ _⟩
    case rem => split at hb <;> simp at hb; rename_i hk; obtain ⟨hk, hn⟩ := hk; subst hk; subst hb; exact key _ (by simp [binOp, Op.intDiv, hn]) ⟨rfl, tmod_in i1⟩
    case and => split at hb <;> simp at hb; rename_i hk; subst hk; subst hb; exact key _ (by simp [binOp, Op.intBits, andK, orK]) ⟨rfl, wrap_in _ _⟩
    case or => split at hb <;> simp at hb; rename_i hk; subst hk; subst hb; exact key _ (by simp [binOp, Op.intBits, andK, orK]) ⟨rfl, wrap_in _ _⟩
    case shl => split at hb <;> simp at hb; rename_i hk; subst hb; exact key _ (by simp [binOp, Op.shift, Int.not_lt.2 hk]) ⟨rfl, wrap_in _ _⟩
    case shr => split at hb <;> simp at hb; rename_i hk; subst hb; exact key _ (by simp [binOp, Op.shift, Int.not_lt.2 hk]) ⟨rfl, fdiv_in i1⟩
    case eql => split at hb <;> simp at hb; rename_i hk; subst hk; subst hb; exact key _ (by simp [binOp, Op.intCmp]) rfl
    case neq => split at hb <;> simp at hb; rename_i hk; subst hk; subst hb; exact key _ (by simp [binOp, Op.intCmp]) rfl
    case lss => split at hb <;> simp at hb; rename_i hk; subst hk; subst hb; exact key _ (by simp [binOp, Op.intCmp]) rfl
    case leq => split at hb <;> simp at hb; rename_i hk; subst hk; subst hb; exact key _ (by simp [binOp, Op.intCmp]) rfl
    case gtr => split at hb <;> simp at hb; rename_i hk; subst hk; subst hb; exact key _ (by simp [binOp, Op.intCmp]) rfl
    case geq => split at hb <;> simp at hb; rename_i hk; subst hk; subst hb; exact key _ (by simp [binOp, Op.intCmp]) rfl
    all_goals cases hb
  · cases hf
theorem op_un (hr : Rel nt w0 W j σ a w) {op : UnOp} {x : Operand} {s : Src} {t : TypeId} (h : o.op = .unOp op t x) (hs : srcOf x = some s) {call : CallF} {d : Nat} {e : Eff} (hf : fp call σ.ev σ.get d (.un op s) = some e) : Goal P j σ a w o e := by
  simp only [fp] at hf
  split at hf
  · rename_i c h1
    split at hf <;> simp [pure1] at hf
    rename_i r hb
    subst hf
    have hr1 := src_rel hr hs
    rw [h1] at hr1
    cases op <;> cases c <;> simp [unC] at hb <;> subst hb
    · rename_i k m
      obtain ⟨e1, i1⟩ : a.eval x = .int k m ∧ inK k m := hr1
      exact done_val (v := .int k (k.wrap (0 - m))) (by simp [execOp, h, e1, Op.unary, Op.intArith]) ⟨by simp, by simpa using wrap_in k (-m)⟩
    · rename_i b
      have e1 : a.eval x = .bool b := hr1
      exact done_val (v := .bool !b) (by simp [execOp, h, e1, Op.unary]) rfl
  · cases hf
theorem op_mm (hr : Rel nt w0 W j σ a w) {mx : Bool} {x y : Operand} {s1 s2 : Src} {c : Call} (h : o.op = .call c) (hb : c.callee = .builtin (if mx then .max else .min)) (ha : c.args.toList = [x, y]) (hx : srcOf x = some s1) (hy : srcOf y = some s2) {call : CallF} {d : Nat} {e : Eff} (hf : fp call σ.ev σ.get d (.mm mx s1 s2) = some e) : Goal P j σ a w o e := by
  have hargs : c.args = #[x, y] := by rw [← Array.toList_inj]; simpa using ha
  simp only [fp] at hf
  split at hf
  · rename_i c1 c2 h1 h2
    split at hf <;> simp [pure1] at hf
    rename_i r hm
    subst hf
    have hr1 := src_rel hr hx
    have hr2 := src_rel hr hy
    rw [h1] at hr1; rw [h2] at hr2
    cases c1 <;> try (simp [mmC] at hm; done)
    cases c2 <;> try (simp [mmC] at hm; done)
    rename_i k m k' n
    obtain ⟨e1, i1⟩ : a.eval x = .int k m ∧ inK k m := hr1
    obtain ⟨e2, i2⟩ : a.eval y = .int k' n ∧ inK k' n := hr2
    simp only [mmC] at hm
    split at hm <;> simp at hm
    rename_i hk; subst hk; subst hm
    cases mx
    · refine done_val (v := .int k (if n < m then n else m)) (by simp [execOp, h, resolve, hb, invoke, builtin, Builtin.min_, hargs, e1, e2, Builtin.min2]) ⟨rfl, ?_⟩
      simp only [Bool.false_eq_true, if_false]
      split
      · exact i2
      · exact i1
    · refine done_val (v := .int k (if n > m then n else m)) (by simp [execOp, h, resolve, hb, invoke, builtin, Builtin.max_, hargs, e1, e2, Builtin.max2]) ⟨rfl, ?_⟩
      simp only [if_true]
      split
      · exact i2
      · exact i1
  · cases hf

/-! ### Equality -/
def valT (P : Program) (t : TypeId) (xs : List Value) : Value := if aggT P t = some true then .agg xs.toArray else xs.getD 0 undef
theorem run_partT {t : TypeId} {s : Nat} {g : Bool} (hs : sizeT P t = some s) (hg : aggT P t = some g) (h1 : g = false → s = 1) {xs : List Value} {off : Nat} (hl : off + s ≤ xs.length) :
    (part t xs.toArray off).run P w = .ok (valT P t ((xs.drop off).take s)) w := by
  cases g
  · obtain rfl := h1 rfl
    have hlt : off < xs.length := by omega
    simp [part, run_isAgg hg, valT, hg, List.getElem?_eq_getElem hlt]
  · simp [part, run_isAgg hg, run_size hs, valT, hg, Nat.add_sub_cancel_left]
theorem eqT_agg {n : Nat} {t : TypeId} {m : List Bool} (h : eqT P n t = some m) : ∃ g, aggT P t = some g ∧ (g = false → m.length = 1) := by
  cases n with
  | zero => simp [eqT] at h
  | succ n =>
    unfold eqT at h
    unfold aggT
    split at h
    · rename_i hu; simp at h; subst h; simp [hu]
    · rename_i hu; simp at h; subst h; simp [hu]
    · rename_i hu; simp [hu]
    · rename_i hu; simp [hu]
    · cases h
theorem eqCs_len : ∀ {ks : List Bool} {c d : List Cell} {r : Bool}, eqCs ks c d = some r → c.length = ks.length ∧ d.length = ks.length
  | [], [], [], _, _ => ⟨rfl, rfl⟩
  | _ :: _, _ :: _, _ :: _, _, h => by
    simp only [eqCs] at h
    split at h <;> simp at h
    rename_i h1 h2
    have := eqCs_len h2
    simp [this]
  | [], _ :: _, _, _, h => by simp [eqCs] at h
  | [], [], _ :: _, _, h => by simp [eqCs] at h
  | _ :: _, [], _, _, h => by simp [eqCs] at h
  | _ :: _, _ :: _, [], _, h => by simp [eqCs] at h
theorem eqCs_split : ∀ {ks ks' : List Bool} {c d : List Cell} {r : Bool}, eqCs (ks ++ ks') c d = some r → ∃ r1 r2, eqCs ks (c.take ks.length) (d.take ks.length) = some r1 ∧ eqCs ks' (c.drop ks.length) (d.drop ks.length) = some r2 ∧ r = (r1 && r2)
  | [], ks', c, d, r, h => ⟨true, r, by simp [eqCs], by simpa using h, by simp⟩
  | k :: ks, ks', x :: c, y :: d, r, h => by
    simp only [List.cons_append, eqCs] at h
    split at h <;> simp at h
    rename_i a b h1 h2
    obtain ⟨r1, r2, h3, h4, rfl⟩ := eqCs_split h2
    exact ⟨a && r1, r2, by simp [eqCs, h1, h3], by simpa using h4, by rw [← h, Bool.and_assoc]⟩
  | k :: ks, ks', [], _, r, h => by simp [eqCs] at h
  | k :: ks, ks', _ :: _, [], r, h => by simp [eqCs] at h
theorem run_eqFieldsT {n d : Nat} (hsub : ∀ (t : TypeId) (ks : List Bool), eqT P n t = some ks → ∀ (cs ds : List Cell) (xs ys : List Value) (r : Bool), All2 (RelC1 j) cs xs → All2 (RelC1 j) ds ys → eqCs ks cs ds = some r → (Op.equalIn d t (valT P t xs) (valT P t ys)).run P w = .ok r w) :
    ∀ (fs : List Field) (off : Nat) (ks : List Bool), eqT.eqF P (eqT P n) off fs = some ks → ∀ (cs ds : List Cell) (xs ys : List Value) (r : Bool), All2 (RelC1 j) (cs.drop off) (xs.drop off) → All2 (RelC1 j) (ds.drop off) (ys.drop off) → off ≤ xs.length → off ≤ ys.length →
      eqCs ks (cs.drop off) (ds.drop off) = some r → (Op.eqFields d xs.toArray ys.toArray fs).run P w = .ok r w
  | [], off, ks, h, cs, ds, xs, ys, r, _, _, _, _, he => by
    simp [eqT.eqF] at h; subst h
    cases hc : cs.drop off <;> cases hd : ds.drop off <;> simp [hc, hd, eqCs] at he
    subst he; simp [Op.eqFields]
  | f :: fs, off, ks, h, cs, ds, xs, ys, r, h1, h2, hx, hy, he => by
    simp only [eqT.eqF] at h
    split at h
    · rename_i m s l hm hs hl
      split at h <;> simp at h
      rename_i hc
      obtain ⟨hms, hoff, hn⟩ := hc
      subst h
      obtain ⟨r1, r2, e1, e2, rfl⟩ := eqCs_split he
      obtain ⟨g, hg, hg1⟩ := eqT_agg hm
      have hln := eqCs_len e1
      have hlx := h1.length; have hly := h2.length
      simp at hln hlx hly
      have q1 : off + s ≤ xs.length := by omega
      have q2 : off + s ≤ ys.length := by omega
      have p1 := run_partT (w := w) hs hg (fun e => by rw [← hms]; exact hg1 e) q1
      have p2 := run_partT (w := w) hs hg (fun e => by rw [← hms]; exact hg1 e) q2
      have p3 := hsub f.type m hm _ _ _ _ r1 (h1.take m.length) (h2.take m.length) e1
      rw [hms] at p3
      rw [hs] at hl
      have ih := run_eqFieldsT hsub fs (off + s) l hl cs ds xs ys r2 (by have := h1.drop m.length; rwa [List.drop_drop, List.drop_drop, hms] at this) (by have := h2.drop m.length; rwa [List.drop_drop, List.drop_drop, hms] at this) q1 q2 (by rw [List.drop_drop, List.drop_drop, hms] at e2; exact e2)
      simp only [Op.eqFields, if_pos hn, hoff, Sem.run_bind, p1, p2, p3, Result.andThen_ok]
      cases r1
      · simp
      · simpa using ih
    · cases h
theorem run_eqItemsT {d : Nat} {t : TypeId} {b : Bool} (hs : sizeT P t = some 1) (hg : aggT P t = some false)
    (hsub : ∀ (c d' : Cell) (x y : Value) (r : Bool), RelC1 j c x → RelC1 j d' y → eqC b c d' = some r → (Op.equalIn d t x y).run P w = .ok r w) :
    ∀ (n k : Nat) (cs ds : List Cell) (xs ys : List Value) (r : Bool), All2 (RelC1 j) (cs.drop k) (xs.drop k) → All2 (RelC1 j) (ds.drop k) (ys.drop k) → eqCs (List.replicate n b) (cs.drop k) (ds.drop k) = some r →
      (Op.eqItems d t 1 xs.toArray ys.toArray (List.range' k n)).run P w = .ok r w
  | 0, k, cs, ds, xs, ys, r, _, _, he => by
    cases hc : cs.drop k <;> cases hd : ds.drop k <;> simp [hc, hd, eqCs] at he
    subst he; simp [Op.eqItems]
  | n + 1, k, cs, ds, xs, ys, r, h1, h2, he => by
    have hln := eqCs_len he
    have hlx := h1.length; have hly := h2.length
    simp at hln hlx hly
    have q1 : k + 1 ≤ xs.length := by omega
    have q2 : k + 1 ≤ ys.length := by omega
    have p1 := run_partT (w := w) (xs := xs) hs hg (fun _ => rfl) q1
    have p2 := run_partT (w := w) (xs := ys) hs hg (fun _ => rfl) q2
    have c1 : cs.drop k = cs[k] :: cs.drop (k + 1) := List.drop_eq_getElem_cons (by omega)
    have c2 : ds.drop k = ds[k] :: ds.drop (k + 1) := List.drop_eq_getElem_cons (by omega)
    have x1 : xs.drop k = xs[k] :: xs.drop (k + 1) := List.drop_eq_getElem_cons (by omega)
    have x2 : ys.drop k = ys[k] :: ys.drop (k + 1) := List.drop_eq_getElem_cons (by omega)
    rw [c1, x1] at h1
    rw [c2, x2] at h2
    rw [c1, c2, List.replicate_succ] at he
    simp only [eqCs] at he
    split at he <;> simp at he
    rename_i r1 r2 e1 e2
    have p3 := hsub _ _ _ _ r1 h1.1 h2.1 e1
    have ih := run_eqItemsT hs hg hsub n (k + 1) cs ds xs ys r2 h1.2 h2.2 e2
    rw [x1] at p1; rw [x2] at p2
    simp only [List.range'_succ, Op.eqItems, Nat.mul_one, Sem.run_bind, p1, p2, Result.andThen_ok]
    simp only [valT, hg, List.take_succ_cons, List.take_zero]
    simp only [Option.some.injEq, Bool.false_eq_true, if_false, List.getD_cons_zero, p3, Result.andThen_ok]
    cases r1
    · simp [← he]
    · simpa [← he] using ih
theorem run_eqT : ∀ (n : Nat) (t : TypeId) (ks : List Bool), eqT P n t = some ks → ∀ (d : Nat), n ≤ d → ∀ (cs ds : List Cell) (xs ys : List Value) (r : Bool), All2 (RelC1 j) cs xs → All2 (RelC1 j) ds ys → eqCs ks cs ds = some r → (Op.equalIn d t (valT P t xs) (valT P t ys)).run P w = .ok r w
  | 0, t, ks, h, _, _, _, _, _, _, _, _, _, _ => by simp [eqT] at h
  | n + 1, t, ks, h, d, hd, cs, ds, xs, ys, r, h1, h2, he => by
    obtain ⟨d, rfl⟩ : ∃ m, d = m + 1 := ⟨d - 1, by omega⟩
    have hsub := fun t ks h => run_eqT n t ks h d (by omega)
    unfold eqT at h
    split at h
    · rename_i hu
      simp at h; subst h
      have hl := eqCs_len he
      match cs, ds, xs, ys, hl, h1, h2, he with
      | [c], [c'], [x], [y], _, h1, h2, he =>
        simp only [eqCs] at he
        have hag : aggT P t = some false := by simp [aggT, hu]
        split at he <;> simp at he
        rename_i r1 r2 e1 e2
        cases c <;> cases c' <;> simp [eqC] at e1
        obtain ⟨e, _⟩ := h1.1; obtain ⟨e', _⟩ := h2.1
        simp only [RelC] at e e'
        simp at e2; subst e2
        subst e1; subst he; subst e; subst e'
        simp [valT, hag, run_equalIn_bool w d t _ _ hu]
    · rename_i k hu
      simp at h; subst h
      have hl := eqCs_len he
      match cs, ds, xs, ys, hl, h1, h2, he with
      | [c], [c'], [x], [y], _, h1, h2, he =>
        simp only [eqCs] at he
        have hag : aggT P t = some false := by simp [aggT, hu]
        split at he <;> simp at he
        rename_i r1 r2 e1 e2
        cases c <;> cases c' <;> simp [eqC] at e1
        obtain ⟨⟨e, _⟩, _⟩ := h1.1; obtain ⟨⟨e', _⟩, _⟩ := h2.1
        simp at e2; subst e2
        obtain ⟨hk, e1⟩ := e1
        subst hk; subst e1; subst he; subst e; subst e'
        simp [valT, hag, run_equalIn_int w d t _ _ _ _ hu]
    · rename_i fs hu
      split at h
      · cases h
      rename_i hst
      have hst : P.stoodInHeld t = false := by simpa using hst
      have hf : P.fieldsOf t = fs := by simp [Program.fieldsOf, hu]
      have hag : aggT P t = some true := by simp [aggT, hu]
      have := run_eqFieldsT (w := w) hsub fs.toList 0 ks h cs ds xs ys r (by simpa using h1) (by simpa using h2) (by omega) (by omega) (by simpa using he)
      simp only [valT, hag, if_true]
      rw [run_equalIn_struct (P := P) w d t _ _ (by rw [hf]; exact hu) hst, hf]
      exact this
    · rename_i len e hu
      split at h
      · rename_i b hb hs hg
        simp at h; subst h
        have hag : aggT P t = some true := by simp [aggT, hu]
        simp only [valT, hag, if_true]
        obtain ⟨i, hi⟩ : ∃ i, P.info? e = some i := by
          cases hi : P.info? e with
          | none => simp [sizeT, hi] at hs
          | some i => exact ⟨i, rfl⟩
        have hce : P.cellsOf e = 1 := by simp only [sizeT] at hs; simp [Program.cellsOf, hs]
        rw [run_equalIn_array (P := P) w d _ _ hu hi, hce, List.range_eq_range']
        refine run_eqItemsT hs hg (fun c d' x y r hx hy hr => ?_) len 0 cs ds xs ys r (by simpa using h1) (by simpa using h2) (by simpa using he)
        have := hsub e [b] hb [c] [d'] [x] [y] r ⟨hx, trivial⟩ ⟨hy, trivial⟩ (by simp [eqCs, hr])
        simpa [valT, hg] using this
      · cases h
    · cases h
theorem valT_of {t : TypeId} {g : Bool} (hg : aggT P t = some g) {x : V} {v : Value} {cs : List Cell} (hr : RelV j x v) (hc : x.cellsG g = some cs) : ∃ vs, v = valT P t vs ∧ All2 (RelC1 j) cs vs := by
  cases g
  · cases x with
    | c x =>
      have hx : V.cells (.c x) = some cs := by cases x <;> simp_all [V.cells, V.cellsG]
      have h2 := cells_rel hx hr
      have hcs : cs = [x] := by cases x <;> simp [V.cells] at hx <;> exact hx.symm
      subst hcs
      match hv : v.cells.toList, h2 with
      | [u], h2 =>
        refine ⟨[u], ?_, h2⟩
        have h3 : v.oneCell' = true := by
          cases x <;> simp [V.cells] at hx <;> simp only [RelV, RelV1, RelC] at hr
          · obtain ⟨rfl, _⟩ := hr; rfl
          · subst hr; rfl
          · obtain ⟨_, _, rfl⟩ := hr; rfl
          · subst hr; rfl
          · obtain ⟨_, ⟨_, _, _, _, _, rfl, _⟩ | ⟨_, _, rfl⟩⟩ := hr <;> rfl
          · subst hr; rfl
          · obtain ⟨_, rfl, _⟩ := hr; rfl
          · subst hr; rfl
        have : v.cells = #[v] := by cases v <;> simp_all [Value.cells, Value.oneCell']
        rw [this] at hv
        simp at hv; subst hv
        simp [valT, hg]
    | agg l => simp [V.cellsG] at hc
    | tup l => simp [V.cellsG] at hc
  · cases x with
    | c x => cases x <;> simp [V.cellsG] at hc
    | agg l =>
      simp [V.cellsG] at hc; subst hc
      obtain ⟨vs, rfl, h2⟩ := hr
      exact ⟨vs, by simp [valT, hg], h2⟩
    | tup l => simp [V.cellsG] at hc
theorem op_eqa (hr : Rel nt w0 W j σ a w) {neg g : Bool} {ks : List Bool} {x y : Operand} {s1 s2 : Src} {t yt : TypeId} (h : o.op = .binOp (if neg then .neq else .eql) t x y yt) (hg : aggT P t = some g) (hk : eqT P 8 t = some ks) (hgd : P.eqGuardType P.depth t = false) (hx : srcOf x = some s1) (hy : srcOf y = some s2)
    (hgb : ∀ k, P.underlying t ≠ some (.int k)) {call : CallF} {d : Nat} {e : Eff} (hf : fp call σ.ev σ.get d (.eqa neg g ks s1 s2) = some e) : Goal P j σ a w o e := by
  simp only [fp] at hf
  split at hf
  · rename_i cs ds h1 h2
    split at hf <;> simp [pure1] at hf
    rename_i r he
    subst hf
    obtain ⟨xs, e1, r1⟩ := valT_of hg (src_rel hr hx) h1
    obtain ⟨ys, e2, r2⟩ := valT_of hg (src_rel hr hy) h2
    have hq := run_eqT (w := w) 8 t ks hk 10000 (by omega) cs ds xs ys r r1 r2 he
    rw [← e1, ← e2] at hq
    have hform : (∃ l m, a.eval x = .agg l ∧ a.eval y = .agg m) ∨ (∃ p q, a.eval x = .bool p ∧ a.eval y = .bool q) := by
      cases g
      · right
        rw [e1, e2]
        simp only [valT, hg]
        unfold eqT at hk
        unfold aggT at hg
        split at hk
        · simp at hk; subst hk
          have hl := eqCs_len he
          match cs, ds, xs, ys, hl, r1, r2 with
          | [c], [c'], [u], [u'], _, r1, r2 =>
            simp only [eqCs] at he
            split at he <;> simp at he
            rename_i q1 q2 e3 e4
            cases c <;> cases c' <;> simp [eqC] at e3
            have q3 := r1.1.1; have q4 := r2.1.1; simp only [RelC] at q3 q4; exact ⟨_, _, by simpa using q3, by simpa using q4⟩
        · rename_i k hu; exact absurd hu (hgb k)
        · rename_i hu; simp [hu] at hg
        · rename_i hu; simp [hu] at hg
        · cases hk
      · left
        rw [e1, e2]
        simp only [valT, hg]
        exact ⟨_, _, rfl, rfl⟩
    have hguard : (eqGuard (if neg then .neq else .eql) t x y (a.eval x) (a.eval y)).run P w = .ok () w := by
      rcases hform with ⟨l, m, h3, h4⟩ | ⟨p, q, h3, h4⟩ <;> rw [h3, h4] <;> unfold eqGuard <;> cases neg <;> simp [hgd]
    have hbin : (binOp (if neg then .neq else .eql) t (a.eval x) (a.eval y)).run P w = .ok (.bool (if neg then !r else r)) w := by
      rcases hform with ⟨l, m, h3, h4⟩ | ⟨p, q, h3, h4⟩ <;> rw [h3, h4] at hq ⊢ <;> cases neg <;> simp [binOp, Op.equal, Op.maxDepth, hq]
    exact done_val (v := .bool (if neg then !r else r)) (by simp [execOp, h, hguard, hbin]) (by cases neg <;> simp <;> rfl)
  · cases hf
end Go.Ab

namespace Go.Ab
variable {P : Program} {nt : Nat} {w0 : World} {W : Wr} {j : J} {σ : St} {a : Act} {w : World} {o : Oper}

theorem addrOf_elem (p : Place) (i k : Nat) : (addrOf p i 0).add (k * p.sz) = addrOf p (i + k) 0 := by
  rw [addrOf_add]; unfold addrOf; rw [Nat.add_mul]; simp [Nat.add_assoc]
theorem op_iaddr (hr : Rel nt w0 W j σ a w) {x i : Operand} {s1 s2 : Src} {t e' : TypeId} {n : Nat} (h : o.op = .indexAddr t x i) (ht : P.underlying t = some (.slice e')) (hn : sizeT P e' = some n) (hx : srcOf x = some s1) (hi : srcOf i = some s2)
    {call : CallF} {d : Nat} {e : Eff} (hf : fp call σ.ev σ.get d (.iaddr n s1 s2) = some e) : Goal P j σ a w o e := by
  simp only [fp] at hf
  split at hf
  · rename_i k z i0 m ki c h1 h2
    split at hf <;> simp [pure1] at hf
    rename_i hc
    subst hf
    have hr1 := src_rel hr hx
    rw [h1] at hr1
    obtain ⟨hi2, _⟩ := int_of hr hi h2
    obtain ⟨rfl, hc0, hc1⟩ := hc
    obtain ⟨_, hr1 | hr1⟩ := hr1
    · obtain ⟨pl, cap, ad, hj, hz, hv, hcap, had, _⟩ := hr1
      have had := had (by right; omega)
      subst had
      refine done_val (v := .pointer (some (addrOf pl (i0 + c.toNat) 0))) ?_ ⟨pl, hj, rfl⟩
      simp [execOp, h, Instr.indexAt, hi2, hv, asIntOf, run_under ht, run_size hn, hc0, hc1, ← hz, addrOf_elem]
    · omega
  · cases hf
theorem op_iaddrA (hr : Rel nt w0 W j σ a w) {x i : Operand} {s1 s2 : Src} {t e' : TypeId} {len n : Nat} (h : o.op = .indexAddr t x i) (ht : P.underlying t = some (.array len e')) (hn : sizeT P e' = some n) (hx : srcOf x = some s1) (hi : srcOf i = some s2)
    {call : CallF} {d : Nat} {e : Eff} (hf : fp call σ.ev σ.get d (.iaddrA len n s1 s2) = some e) : Goal P j σ a w o e := by
  simp only [fp] at hf
  split at hf
  · rename_i p ki c h1 h2
    split at hf <;> simp [pure1] at hf
    rename_i hc
    subst hf
    have hr1 := src_rel hr hx
    rw [h1] at hr1
    obtain ⟨hi2, _⟩ := int_of hr hi h2
    obtain ⟨pl, hj, hv⟩ := hr1
    refine done_val (v := .pointer (some (addrOf pl p.i (p.o + c.toNat * n)))) ?_ ⟨pl, hj, rfl⟩
    simp [execOp, h, Instr.indexAt, hi2, hv, asIntOf, run_under ht, run_size hn, hc.1, hc.2, Instr.sureAddr, addrOf_add]
  · cases hf
theorem op_index (hr : Rel nt w0 W j σ a w) {x i : Operand} {s1 s2 : Src} {t e' : TypeId} {len n : Nat} {g : Bool} (h : o.op = .index t x i) (ht : P.underlying t = some (.array len e')) (hn : loadT P e' = some (g, n)) (hx : srcOf x = some s1) (hi : srcOf i = some s2)
    {call : CallF} {d : Nat} {e : Eff} (hf : fp call σ.ev σ.get d (.index g len n s1 s2) = some e) : Goal P j σ a w o e := by
  simp only [fp] at hf
  split at hf
  · rename_i cs ki c h1 h2
    split at hf
    · rename_i hc
      simp only [Option.map_eq_some_iff] at hf
      obtain ⟨v, hv, rfl⟩ := hf
      have hr1 := src_rel hr hx
      rw [h1] at hr1
      obtain ⟨hi2, _⟩ := int_of hr hi h2
      obtain ⟨vs, e1, e2⟩ := hr1
      have hlen := e2.length
      have hm := mkV_rel hv ((e2.drop (c.toNat * n)).take n)
      have hs : sizeT P e' = some n ∧ aggT P e' = some g ∧ (g = false → n = 1) := by
        unfold loadT at hn
        split at hn
        · rename_i ha hsz; simp at hn; obtain ⟨rfl, rfl⟩ := hn; exact ⟨hsz, ha, fun h => by cases h⟩
        · rename_i m ha hsz; split at hn <;> simp at hn; obtain ⟨rfl, rfl⟩ := hn; rename_i hm1; subst hm1; exact ⟨hsz, ha, fun _ => rfl⟩
        · cases hn
      have hp := run_partT (w := w) (xs := vs) (off := c.toNat * n) hs.1 hs.2.1 hs.2.2 (by omega)
      refine done_val (v := valT P e' ((vs.drop (c.toNat * n)).take n)) ?_ ?_
      · simp [execOp, h, Instr.index, hi2, e1, asIntOf, run_under ht, run_size hs.1, hc.1, hc.2.1, hp]
      · cases g
        · obtain ⟨u, hu, hu2⟩ := hm.2 rfl
          rw [hu]; simp [valT, hs.2.1]; exact hu2
        · simp [valT, hs.2.1]; simpa using hm.1 rfl
    · cases hf
  · cases hf
theorem op_fn (hr : Rel nt w0 W j σ a w) {f : Nat} {first cap : Array Operand} {l : List Src} (h : o.op = .makeFunc (.func f) first cap) (h0 : first.toList = []) (hc : srcsOf cap.toList = some l) {call : CallF} {d : Nat} {e : Eff} (hf : fp call σ.ev σ.get d (.fn f l) = some e) : Goal P j σ a w o e := by
  have hfirst : first = #[] := by rw [← Array.toList_inj]; simpa using h0
  simp only [fp] at hf
  split at hf <;> simp [pure1] at hf
  rename_i ls hl
  subst hf
  have hs := srcs_rel hr hc
  have key : ∀ {vs : List V} {ls : List Loc} {ws : List Value}, capsOf vs = some ls → All2 (RelV j) vs ws → All2 (RelL j) ls ws := by
    intro vs
    induction vs with
    | nil => intro ls ws h1 h2; simp [capsOf] at h1; subst h1; cases ws with | nil => trivial | cons _ _ => exact h2.elim
    | cons v r ih =>
      intro ls ws h1 h2
      cases ws with
      | nil => exact h2.elim
      | cons u us =>
        cases v with
        | c x =>
          cases x <;> simp [capsOf] at h1
          obtain ⟨l', h3, rfl⟩ := h1
          exact ⟨h2.1, ih h3 h2.2⟩
        | agg _ => simp [capsOf] at h1
        | tup _ => simp [capsOf] at h1
  exact done_val (v := .func (.func f) #[] (cap.map a.eval)) (by simp [execOp, h, Instr.makeFunc, hfirst]) ⟨(cap.map a.eval).toList, by rw [Array.toArray_toList], by simpa using key hl hs⟩
theorem op_sl (hr : Rel nt w0 W j σ a w) {x : Operand} {lo hi : Option Operand} {s : Src} {sl sh : Option Src} {t e' : TypeId} {n : Nat} (h : o.op = .slice t x lo hi none) (ht : P.underlying t = some (.slice e')) (hn : sizeT P e' = some n) (hx : srcOf x = some s)
    (hlo : (lo = none ∧ sl = none) ∨ ∃ y z, lo = some y ∧ sl = some z ∧ srcOf y = some z) (hhi : (hi = none ∧ sh = none) ∨ ∃ y z, hi = some y ∧ sh = some z ∧ srcOf y = some z)
    {call : CallF} {d : Nat} {e : Eff} (hf : fp call σ.ev σ.get d (.sl n s sl sh) = some e) : Goal P j σ a w o e := by
  have hb : ∀ (m cap : Nat) (l u : Nat), m ≤ cap → slB σ.ev m sl sh = some (l, u) → l ≤ u ∧ u ≤ m ∧ (Instr.sliceBounds true m cap (lo.map a.eval) (hi.map a.eval) none).run P w = .ok (l, u, cap) w := by
    intro m cap l u hmc hs
    rcases hlo with ⟨rfl, rfl⟩ | ⟨y, z, rfl, rfl, hy⟩ <;> rcases hhi with ⟨rfl, rfl⟩ | ⟨y', z', rfl, rfl, hy'⟩
    · simp [slB] at hs; obtain ⟨rfl, rfl⟩ := hs; simp [Instr.sliceBounds]
    · simp only [slB] at hs
      split at hs
      · rename_i k c hc
        split at hs <;> simp at hs
        rename_i hr2; obtain ⟨rfl, rfl⟩ := hs
        obtain ⟨q, _⟩ := int_of hr hy' hc
        refine ⟨by omega, by omega, ?_⟩
        have : c ≤ (cap : Int) := by omega
        simp [Instr.sliceBounds, Instr.sliceBound, q, asIntOf, hr2.1, this]
      · cases hs
    · simp only [slB] at hs
      split at hs
      · rename_i k c hc
        split at hs <;> simp at hs
        rename_i hr2; obtain ⟨rfl, rfl⟩ := hs
        obtain ⟨q, _⟩ := int_of hr hy hc
        refine ⟨by omega, by omega, ?_⟩
        simp [Instr.sliceBounds, Instr.sliceBound, q, asIntOf, hr2.1, hr2.2]
      · cases hs
    · simp only [slB] at hs
      split at hs
      · rename_i k c k' c' hc hc'
        split at hs <;> simp at hs
        rename_i hr2; obtain ⟨rfl, rfl⟩ := hs
        obtain ⟨q, _⟩ := int_of hr hy hc
        obtain ⟨q', _⟩ := int_of hr hy' hc'
        refine ⟨by omega, by omega, ?_⟩
        have h1 : c' ≤ (cap : Int) := by omega
        have h2 : 0 ≤ c' := by omega
        have h3 : ¬ max c' 0 < c := by omega
        simp [Instr.sliceBounds, Instr.sliceBound, q, q', asIntOf, hr2.1, h1, h2, h3]
      · cases hs
  simp only [fp] at hf
  have hr1 := src_rel hr hx
  split at hf
  · rename_i k z i m h1
    split at hf
    · rename_i l u hs
      split at hf <;> simp [pure1] at hf
      rename_i hz; subst hz
      subst hf
      rw [h1] at hr1
      obtain ⟨hms, hr1 | hr1⟩ := hr1
      · obtain ⟨pl, cap, ad, hj, hsz, hv, hcap, had, hown⟩ := hr1
        obtain ⟨h3, h4, h5⟩ := hb m cap l u hcap hs
        refine done_val (v := .slice (some (if cap = l then ad else ad.add (l * z))) (u - l) (cap - l)) ?_ ⟨by omega, .inl ⟨pl, cap - l, _, hj, hsz, rfl, by omega, ?_, ?_⟩⟩
        · simp [execOp, h, Instr.sliceAt, run_under ht, Instr.slice, hv, h5, run_size hn]; split <;> rfl
        · intro hh
          by_cases hcl : cap = l
          · rw [if_pos hcl]
            rcases hh with hh | hh
            · obtain rfl : i = 0 := by omega
              obtain rfl : l = 0 := by omega
              exact had (.inl rfl)
            · omega
          · rw [if_neg hcl]
            have had := had (by rcases hh with hh | hh <;> omega)
            subst had; subst hsz
            exact addrOf_elem _ _ _
        · intro hi0 ho
          obtain rfl : l = 0 := by omega
          have := hown (by omega) ho
          omega
      · obtain ⟨hj, rfl, hv⟩ := hr1
        obtain ⟨h3, h4, h5⟩ := hb 0 0 l u (by omega) hs
        obtain rfl : u = 0 := by omega
        obtain rfl : l = 0 := by omega
        exact done_val (v := .slice none 0 0) (by simp [execOp, h, Instr.sliceAt, run_under ht, Instr.slice, hv, h5, run_size hn]) ⟨by simp [maxS], .inr ⟨hj, rfl, rfl⟩⟩
    · cases hf
  · rename_i h1
    split at hf
    · rename_i lu hs
      obtain ⟨l, u⟩ := lu
      simp [pure1] at hf; subst hf
      rw [h1] at hr1
      have hv : a.eval x = .slice none 0 0 := hr1
      obtain ⟨h3, h4, h5⟩ := hb 0 0 l u (by omega) hs
      obtain rfl : u = 0 := by omega
      obtain rfl : l = 0 := by omega
      exact done_val (v := .slice none 0 0) (by simp [execOp, h, Instr.sliceAt, run_under ht, Instr.slice, hv, h5, run_size hn]) rfl
    · cases hf
  · cases hf
end Go.Ab

namespace Go.Ab
variable {P : Program} {nt : Nat} {w0 : World} {W : Wr} {j : J} {σ : St} {a : Act} {w : World} {o : Oper}

theorem okK_ne {cr : List Nat} {d : Nat} (hd : d ∉ cr) {k : Key} (h : okK cr k) : k ≠ .l d := fun e => hd (h d e)
theorem src_congr (hr : Rel nt w0 W j σ a w) {d : Nat} (hd : d ∉ σ.cr) {x : Operand} {s : Src} (h : srcOf x = some s) {j' : J} (hj : ∀ k, k ≠ .l d → j' k = j k) : RelV j' (σ.ev s) (a.eval x) :=
  (src_rel hr h).congr fun k hk => hj k (okK_ne hd (src_keys hr h k hk))
theorem srcs_congr (hr : Rel nt w0 W j σ a w) {d : Nat} (hd : d ∉ σ.cr) {j' : J} (hj : ∀ k, k ≠ .l d → j' k = j k) : ∀ {xs : List Operand} {ss : List Src}, srcsOf xs = some ss → All2 (RelV j') (srcs σ.ev ss) (xs.map a.eval)
  | [], _, h => by simp [srcsOf] at h; subst h; trivial
  | x :: r, _, h => by
    simp only [srcsOf] at h
    split at h <;> simp at h
    rename_i s r' h1 h2
    subst h
    exact ⟨src_congr hr hd h1 hj, srcs_congr hr hd hj h2⟩
theorem op_new {T n : Nat} {pl : Bool} {z : List Cell} (h : o.op = .alloc T) (hz : zeroT P T = some z) {call : CallF} {d : Nat} {e : Eff} (hf : fp call σ.ev σ.get d (.new T n pl z) = some e) : Goal P j σ a w o e := by
  simp only [fp] at hf
  split at hf <;> simp at hf
  rename_i hc
  subst hf
  obtain ⟨v, h1, h2, _⟩ := run_zero hz w
  refine .inl ⟨_, _, ?_, newRow_post (els := [z]) (cap := 1) (vs := v.cells.toList) (rest := []) (x := fun p => .c (.ptr ⟨.l d, 0, 0⟩)) (v := .pointer (some ⟨w.heap.size, 0, none⟩)) (w1 := { w with heap := w.heap.push (.cells v.cells T) }) ?_ ?_ ?_ ?_ ?_ ?_ ?_ rfl rfl rfl⟩
  · simp [execOp, h, Instr.alloc, h1, newVar, newRow]
  · intro j' _; simpa using h2 j'
  · simpa using hc.1
  · simpa using hc.2
  · simp
  · have := (h2 j).length; simp at this ⊢; omega
  · intro j' hj'; exact ⟨_, hj', by simp [addrOf]⟩
  · simp
theorem op_box (hr : Rel nt w0 W j σ a w) {T n : Nat} {pl : Bool} {x : Operand} {s : Src} (h : o.op = .box T x) (hs : srcOf x = some s) {call : CallF} {d : Nat} (hd : d ∉ σ.cr) {e : Eff} (hf : fp call σ.ev σ.get d (.box T n pl s) = some e) : Goal P j σ a w o e := by
  simp only [fp] at hf
  split at hf
  · rename_i z hz
    split at hf <;> simp at hf
    rename_i hc
    subst hf
    refine .inl ⟨_, _, ?_, newRow_post (els := [z]) (cap := 1) (vs := (a.eval x).cells.toList) (rest := []) (x := fun p => .c (.ptr ⟨.l d, 0, 0⟩)) (v := .pointer (some ⟨w.heap.size, 0, none⟩)) (w1 := { w with heap := w.heap.push (.cells (a.eval x).cells T) }) ?_ ?_ ?_ ?_ ?_ ?_ ?_ rfl rfl rfl⟩
    · simp [execOp, h, Instr.box, newVar, newRow]
    · intro j' hj; simpa using cells_rel hz (src_congr hr hd hs hj)
    · simpa using hc.1
    · simpa using hc.2
    · simp
    · have := (cells_rel hz (src_rel hr hs)).length; simp at this ⊢; omega
    · intro j' hj'; exact ⟨_, hj', by simp [addrOf]⟩
    · simp
  · cases hf

/-! ### A struct, an array put together -/
theorem fold_set (off : Nat) : ∀ (l : List Value) (k : Nat) (cur : Array Value), off + k + l.length ≤ cur.size →
    (l.zipIdx k).foldl (fun cs (x : Value × Nat) => cs.setIfInBounds (off + x.2) x.1) cur = (cur.toList.take (off + k) ++ l ++ cur.toList.drop (off + k + l.length)).toArray
  | [], k, cur, _ => by simp
  | v :: r, k, cur, h => by
    simp only [List.length_cons] at h
    simp only [List.zipIdx_cons, List.foldl_cons]
    rw [fold_set off r (k + 1) _ (by simp; omega)]
    have e := list_seg_step cur.toList (off + k) v r (by simp; omega)
    rw [Array.toList_setIfInBounds, ← Nat.add_assoc, e]
    simp
theorem fill_rel (hr : Rel nt w0 W j σ a w) {place : Nat → Option (Nat × Nat)} : ∀ {ps : List (Nat × Operand)} {ss : List (Nat × Nat × Src)} {z cs : List Cell} {zv : List Value},
    All2 (fun (p : Nat × Operand) (s : Nat × Nat × Src) => place p.1 = some (s.1, s.2.1) ∧ srcOf p.2 = some s.2.2) ps ss → All2 (RelC1 j) z zv → fillC σ.ev z ss = some cs →
    ∃ vs : List Value, Instr.fill place zv.toArray (ps.map fun p => (p.1, a.eval p.2)) = some vs.toArray ∧ All2 (RelC1 j) cs vs
  | [], [], z, cs, zv, _, hz, h => by simp [fillC] at h; subst h; exact ⟨zv, by simp [Instr.fill], hz⟩
  | p :: ps, s :: ss, z, cs, zv, hp, hz, h => by
    obtain ⟨off, n, x⟩ := s
    obtain ⟨⟨h1, h2⟩, h3⟩ := hp
    simp only [fillC] at h
    split at h
    · rename_i xs hx
      split at h
      · rename_i hc
        have hv := cells_rel hx (src_rel hr h2)
        have hl := hv.length
        have hzl := hz.length
        have hsp : All2 (RelC1 j) (splice z off xs) (zv.take off ++ (a.eval p.2).cells.toList ++ zv.drop (off + (a.eval p.2).cells.toList.length)) := by
          unfold splice
          rw [← hl]
          exact ((hz.take off).append hv).append (hz.drop _)
        obtain ⟨vs, h4, h5⟩ := fill_rel hr h3 hsp h
        refine ⟨vs, ?_, h5⟩
        simp only [List.map_cons, Instr.fill, h1]
        have hsz : (a.eval p.2).cells.size = n := by rw [← hc.1, hl]; simp
        rw [if_neg (by simp [hsz, ← hzl]; omega)]
        rw [← h4]
        congr 1
        rw [← Array.foldl_toList, Array.toList_zipIdx]
        have := fold_set off (a.eval p.2).cells.toList 0 zv.toArray (by simp [hsz, ← hzl]; omega)
        simpa using this
      · cases h
    · cases h
theorem op_build (hr : Rel nt w0 W j σ a w) {t : TypeId} {ps : Array (Nat × Operand)} {ss : List (Nat × Nat × Src)} {z : List Cell} (h : o.op = .build t ps) (hz : zeroT P t = some z)
    (hp : (∃ fs pl, P.underlying t = some (.struct fs) ∧ placesT P fs = some pl ∧ partsS pl ps.toList = some ss) ∨ ∃ len e n, P.underlying t = some (.array len e) ∧ sizeT P e = some n ∧ partsA n ps.toList = some ss)
    {call : CallF} {d : Nat} {e : Eff} (hf : fp call σ.ev σ.get d (.build z ss) = some e) : Goal P j σ a w o e := by
  simp only [fp] at hf
  split at hf <;> simp [pure1] at hf
  rename_i cs hcs
  subst hf
  obtain ⟨v, h1, h2, _⟩ := run_zero hz w
  have hmap : (ps.map fun (x : Nat × Operand) => (x.1, a.eval x.2)).toList = ps.toList.map fun x => (x.1, a.eval x.2) := by simp
  rcases hp with ⟨fs, pl, hu, hpl, hp⟩ | ⟨len, e, n, hu, hn, hp⟩
  · have key : ∀ (l : List (Nat × Operand)) (ss : List (Nat × Nat × Src)), partsS pl l = some ss →
        All2 (fun (p : Nat × Operand) (s : Nat × Nat × Src) => pl.toArray[p.1]? = some (s.1, s.2.1) ∧ srcOf p.2 = some s.2.2) l ss := by
      intro l
      induction l with
      | nil => intro ss h; simp [partsS] at h; subst h; trivial
      | cons p r ih =>
        intro ss h
        obtain ⟨i, x⟩ := p
        simp only [partsS] at h
        split at h <;> simp at h
        rename_i off n s r' h3 h4 h5
        subst h
        exact ⟨⟨by simpa using h3, h4⟩, ih _ h5⟩
    have hm := run_places (P := P) w fs.toList pl hpl
    obtain ⟨vs, h3, h4⟩ := fill_rel (place := (pl.toArray[·]?)) hr (key _ _ hp) (h2 j) hcs
    refine done_val (v := .agg vs.toArray) ?_ ⟨vs, rfl, h4⟩
    rw [Array.toArray_toList] at h3
    simp only [Array.toArray_toList, List.getElem?_toArray] at h3
    simp [execOp, h, Instr.build, h1, run_under hu, Array.mapM_eq_mapM_toList, hm, h3]
  · have key : ∀ (l : List (Nat × Operand)) (ss : List (Nat × Nat × Src)), partsA n l = some ss →
        All2 (fun (p : Nat × Operand) (s : Nat × Nat × Src) => (some (p.1 * n, n) : Option (Nat × Nat)) = some (s.1, s.2.1) ∧ srcOf p.2 = some s.2.2) l ss := by
      intro l
      induction l with
      | nil => intro ss h; simp [partsA] at h; subst h; trivial
      | cons p r ih =>
        intro ss h
        obtain ⟨i, x⟩ := p
        simp only [partsA] at h
        split at h <;> simp at h
        rename_i s r' h4 h5
        subst h
        exact ⟨⟨rfl, h4⟩, ih _ h5⟩
    obtain ⟨vs, h3, h4⟩ := fill_rel (place := fun i => some (i * n, n)) hr (key _ _ hp) (h2 j) hcs
    refine done_val (v := .agg vs.toArray) ?_ ⟨vs, rfl, h4⟩
    rw [Array.toArray_toList] at h3
    simp [execOp, h, Instr.build, h1, run_under hu, run_size hn, h3]

/-! ### A store -/
theorem splice_get {e xs : List Cell} {off k : Nat} {c : Cell} (hle : off + xs.length ≤ e.length) (h : (splice e off xs)[k]? = some c) :
    (off ≤ k ∧ k < off + xs.length ∧ xs[k - off]? = some c) ∨ ((k < off ∨ off + xs.length ≤ k) ∧ e[k]? = some c) := by
  unfold splice at h
  have h1 : (e.take off).length = off := by simp; omega
  rw [List.append_assoc, List.getElem?_append] at h
  split at h
  · rename_i hk
    rw [h1] at hk
    right; refine ⟨.inl hk, ?_⟩
    rw [List.getElem?_take] at h; simpa [hk] using h
  · rename_i hk
    rw [h1] at hk h
    rw [List.getElem?_append] at h
    split at h
    · rename_i hk2; left; exact ⟨by omega, by omega, h⟩
    · rename_i hk2
      right; refine ⟨.inr (by omega), ?_⟩
      rw [List.getElem?_drop] at h
      rwa [show off + xs.length + (k - off - xs.length) = k by omega] at h
theorem splice_length {e xs : List Cell} {off : Nat} (hle : off + xs.length ≤ e.length) : (splice e off xs).length = e.length := by
  unfold splice; simp; omega
theorem splice_plain {e xs : List Cell} {off : Nat} (h1 : allPlain e = true) (h2 : allPlain xs = true) : allPlain (splice e off xs) = true := by
  have hap : ∀ l : List Cell, (∀ c ∈ l, c.plain = true) → allPlain l = true := by
    intro l; induction l with
    | nil => intro _; rfl
    | cons c r ih => intro h; simp [allPlain, h c (by simp), ih fun x hx => h x (by simp [hx])]
  refine hap _ fun c hc => ?_
  simp only [splice, List.mem_append] at hc
  rcases hc with (hc | hc) | hc
  · exact allPlain_mem h1 (List.mem_of_mem_take hc)
  · exact allPlain_mem h2 hc
  · exact allPlain_mem h1 (List.mem_of_mem_drop hc)
theorem run_storeVar {t : TypeId} {n : Nat} (hs : sizeT P t = some n) (g o' : Nat) (T : TypeId) (cur : Array Value) (u : Value) (hg : w.heap[g]? = some (.cells cur T (0, 0))) (hn : u.cells.size = n) (hl : o' + n ≤ cur.size) (h1 : ∀ v ∈ u.cells.toList, v.oneCell' = true) :
    (storeVar t ⟨g, o', none⟩ u).run P w = .ok () (w.setRow g (cur.toList.take o' ++ u.cells.toList ++ cur.toList.drop (o' + n)).toArray) := by
  have := run_storeCells_at P g o' T u.cells.toList 0 cur w hg (by simp [hn]; omega) h1
  simp only [storeVar, Sem.run_bind, run_size hs, Result.andThen_ok, hn, ne_eq, not_true_eq_false, if_false]
  simpa [hn] using this
theorem op_store (hr : Rel nt w0 W j σ a w) {x y : Operand} {s1 s2 : Src} {t : TypeId} {n : Nat} (h : o.op = .store t x y) (hn : sizeT P t = some n) (hx : srcOf x = some s1) (hy : srcOf y = some s2) {call : CallF} {d : Nat} {e : Eff} (hf : fp call σ.ev σ.get d (.store n s1 s2) = some e) : Goal P j σ a w o e := by
  simp only [fp] at hf
  split at hf
  · rename_i p xs h1 h2
    split at hf
    · rename_i b hb
      split at hf
      · rename_i el hel
        split at hf <;> simp at hf
        rename_i hc
        obtain ⟨hown, hxl, hle, hpl⟩ := hc
        subst hf
        have hr1 := src_rel hr hx
        rw [h1] at hr1
        obtain ⟨pl, hj, hv⟩ := hr1
        have hB := hr.hp.som _ _ _ hb hj
        obtain ⟨hbase, hcap, cur, hheap, hsize⟩ := hB.ow hown
        have hxr := cells_rel h2 (src_rel hr hy)
        have hlen := hxr.length
        have hus : (a.eval y).cells.size = n := by rw [← hxl, hlen]; simp
        have hell : el.length = b.sz := hB.len el (List.mem_of_getElem? hel)
        have hi : p.i < b.els.length := by
          rcases Nat.lt_or_ge p.i b.els.length with h | h
          · exact h
          · rw [List.getElem?_eq_none h] at hel; cases hel
        have hpos : p.i * b.sz + b.sz ≤ pl.cap * b.sz := by
          have := Nat.mul_le_mul_right b.sz (show p.i + 1 ≤ pl.cap by omega)
          rwa [Nat.succ_mul] at this
        let off := p.i * b.sz + p.o
        have hoff : off + n ≤ cur.size := by rw [hsize]; simp only [off]; omega
        have hrun := run_storeVar (w := w) hn pl.block off b.T cur (a.eval y) hheap hus hoff (All2.ones hxr)
        have haddr : addrOf pl p.i p.o = ⟨pl.block, off, none⟩ := by simp [addrOf, hbase, hB.sz, off]
        let cs' : Array Value := (cur.toList.take off ++ (a.eval y).cells.toList ++ cur.toList.drop (off + n)).toArray
        have hheap' : (w.setRow pl.block cs').heap[pl.block]? = some (.cells cs' b.T (0, 0)) := setRow_heap w _ _ _ _ _ hheap
        have hsize' : cs'.size = cur.size := by simp [cs', hus]; omega
        have hget : ∀ m, cs'[m]? = if off ≤ m ∧ m < off + n then (a.eval y).cells.toList[m - off]? else cur[m]? := by
          intro m
          have h3 : (cur.toList.take off).length = off := by simp; omega
          simp only [cs', List.getElem?_toArray]
          rw [List.append_assoc, List.getElem?_append, h3]
          split
          · rename_i hm; rw [if_neg (by omega), List.getElem?_take, if_pos hm]; simp
          · rename_i hm
            rw [List.getElem?_append]
            have h4 : (a.eval y).cells.toList.length = n := by simp [hus]
            rw [h4]
            split
            · rename_i hm2; rw [if_pos (by omega)]
            · rename_i hm2
              rw [if_neg (by omega), List.getElem?_drop, show off + n + (m - off - n) = m by omega]; simp
        have hB' : RelB j { b with els := b.els.set p.i (splice el p.o xs) } pl (w.setRow pl.block cs') := by
          have hmem : ∀ e ∈ b.els.set p.i (splice el p.o xs), e ∈ b.els ∨ e = splice el p.o xs := fun e he => List.mem_or_eq_of_mem_set he
          refine ⟨by simpa using hB.lt, hB.sz, hB.own, ?_, ?_, ?_, ?_⟩
          · intro e he
            rcases hmem e he with h | rfl
            · exact hB.len e h
            · rw [splice_length (by omega)]; exact hell
          · intro hp e he
            rcases hmem e he with h | rfl
            · exact hB.pl hp e h
            · exact splice_plain (hB.pl hp el (List.mem_of_getElem? hel)) (hpl hp)
          · intro i e he k c hk
            have hcell : (w.setRow pl.block cs').cell? (addrOf pl i k) = cs'[i * b.sz + k]? := by
              simp only [addrOf, hbase, hB.sz, Nat.zero_add]
              exact cell_setRow_same w _ _ _ _ _ _ hheap
            have hold : ∀ i e, b.els[i]? = some e → ∀ k c, e[k]? = some c → ∃ v, cur[i * b.sz + k]? = some v ∧ RelC1 j c v := by
              intro i e he k c hk
              obtain ⟨v, q1, q2⟩ := hB.rd i e he k c hk
              refine ⟨v, ?_, q2⟩
              rw [← q1]; simp [World.cell?, addrOf, hbase, hB.sz, hheap]
            rw [hcell]
            by_cases hip : p.i = i
            · subst hip
              have he2 : e = splice el p.o xs := by
                have : (b.els.set p.i (splice el p.o xs))[p.i]? = some (splice el p.o xs) := by simp [hi]
                rw [this] at he; simpa using he.symm
              subst he2
              rcases splice_get (by omega) hk with ⟨k1, k2, k3⟩ | ⟨k1, k2⟩
              · obtain ⟨v, q1, q2⟩ := hxr.get k3
                refine ⟨v, ?_, q2⟩
                rw [hget, if_pos (by simp only [off]; omega), show p.i * b.sz + k - off = k - p.o by simp only [off]; omega]
                exact q1
              · obtain ⟨v, q1, q2⟩ := hold p.i el hel k c k2
                refine ⟨v, ?_, q2⟩
                rw [hget, if_neg (by simp only [off]; omega)]; exact q1
            · rw [List.getElem?_set_ne hip] at he
              obtain ⟨v, q1, q2⟩ := hold i e he k c hk
              refine ⟨v, ?_, q2⟩
              have hkl : k < b.sz := by
                have := hB.len e (List.mem_of_getElem? he)
                rcases Nat.lt_or_ge k e.length with h | h
                · omega
                · rw [List.getElem?_eq_none h] at hk; cases hk
              have hfar : ¬ (off ≤ i * b.sz + k ∧ i * b.sz + k < off + n) := by
                simp only [off]
                rcases Nat.lt_or_gt_of_ne hip with hlt | hgt
                · have := Nat.mul_le_mul_right b.sz (show p.i + 1 ≤ i by omega)
                  rw [Nat.succ_mul] at this; omega
                · have := Nat.mul_le_mul_right b.sz (show i + 1 ≤ p.i by omega)
                  rw [Nat.succ_mul] at this; omega
              rw [hget, if_neg hfar]; exact q1
          · intro _
            exact ⟨hbase, by simpa using hcap, cs', hheap', by rw [hsize']; exact hsize⟩
        have hL : ∀ k b1, lastW k [(p.k, some ({ b with els := b.els.set p.i (splice el p.o xs) } : Blk))] = some (some b1) → k = p.k ∧ b1 = { b with els := b.els.set p.i (splice el p.o xs) } := by
          intro k b1 hh; obtain ⟨rfl, hh2⟩ := lastW_one hh; exact ⟨rfl, Option.some.inj hh2⟩
        refine .inr (.inl ⟨w.setRow pl.block cs', ?_, j, ⟨fun _ _ => rfl, trivial, ?_, ?_, ?_, ?_, ?_, ?_⟩⟩)
        · simp [execOp, h, Instr.storeAt, hv, Instr.sureAddr, haddr, hrun, cs']
        · intro k b1 hk hn; obtain ⟨rfl, rfl⟩ := hL k b1 hk; rw [hj] at hn; cases hn
        · intro k b1 q hk hq; obtain ⟨rfl, rfl⟩ := hL k b1 hk; rw [hj] at hq; cases hq; exact hB'
        · intro k k' b1 b2 q q' hk hk' hne; obtain ⟨rfl, rfl⟩ := hL k b1 hk; obtain ⟨rfl, rfl⟩ := hL k' b2 hk'; exact absurd rfl hne
        · intro k b1 hk; obtain ⟨rfl, rfl⟩ := hL k b1 hk; exact hown
        · refine ⟨rfl, rfl, rfl, by simp, fun i hi hn => ?_⟩
          by_cases hib : i = pl.block
          · exact absurd ⟨p.k, b, pl, hb, hown, hj, hib.symm, by simp [lastW]⟩ hn
          · exact setRow_other w _ _ _ hib
        · intro k b1 q hk hq; obtain ⟨rfl, rfl⟩ := hL k b1 hk; rw [hj] at hq; cases hq
          exact .inr ⟨p.k, b, pl, hb, hown, hj, rfl, by simp [lastW]⟩
      · cases hf
    · cases hf
  · cases hf
end Go.Ab

namespace Go.Ab
variable {P : Program} {nt : Nat} {w0 : World} {W : Wr} {j : J} {σ : St} {a : Act} {w : World} {o : Oper}

/-- Several elements of a row, read. -/
theorem rows_read {b : Blk} {p : Place} (hb : RelB j b p w) (i : Nat) : ∀ n, i + n ≤ b.els.length →
    ∃ vs : List Value, vs.length = n * b.sz ∧ All2 (RelC1 j) ((b.els.drop i).take n).flatten vs ∧ ∀ (m : Nat) (v : Value), vs[m]? = some v → w.cell? ((addrOf p i 0).add m) = some v
  | 0, _ => ⟨[], by simp, by simp [All2], fun m v h => by simp at h⟩
  | n + 1, hn => by
    obtain ⟨vs, h1, h2, h3⟩ := rows_read hb i n (by omega)
    have hlt : i + n < b.els.length := by omega
    have he : b.els[i + n]? = some b.els[i + n] := by simp [hlt]
    have hlen : (b.els[i + n]).length = b.sz := hb.len _ (List.getElem_mem hlt)
    obtain ⟨us, q1, q2, q3⟩ := row_reads hb he 0 b.sz (by omega)
    refine ⟨vs ++ us, by simp [h1, q1, Nat.succ_mul], ?_, fun m v hv => ?_⟩
    · have e : (b.els.drop i).take (n + 1) = (b.els.drop i).take n ++ [b.els[i + n]] := by
        rw [List.take_succ_eq_append_getElem (by simp; omega)]; simp
      rw [e, List.flatten_append]
      refine h2.append ?_
      simpa [List.take_of_length_le (Nat.le_of_eq hlen)] using q2
    · rw [List.getElem?_append] at hv
      split at hv
      · exact h3 m v hv
      · rename_i hm
        rw [h1] at hv hm
        have := q3 (m - n * b.sz) v hv
        rw [addrOf_add] at this ⊢
        rw [← this]
        simp only [addrOf, hb.sz]
        congr 2
        rw [Nat.add_mul]; omega
theorem run_first {sz : Nat} {x : V} {v : Value} {ks : List Key} {xs : List (List Cell)} (hr : RelH j σ.get w) (hv : RelV j x v) (h : rowsOf σ.get sz x = some (ks, xs)) :
    ∃ vs : List Value, vs.length = xs.length * sz ∧ (Builtin.lenOf v).run P w = .ok xs.length w ∧ (Builtin.firstCells sz xs.length v).run P w = .ok vs.toArray w ∧ All2 (RelC1 j) xs.flatten vs ∧ (∀ e ∈ xs, e.length = sz) ∧ (∀ e ∈ xs, allPlain e = true) := by
  unfold rowsOf at h
  split at h
  · simp at h; obtain ⟨rfl, rfl⟩ := h
    have hv : v = .slice none 0 0 := hv
    subst hv
    exact ⟨[], by simp, by simp [Builtin.lenOf], by simp [Builtin.firstCells], trivial, by simp, by simp⟩
  · rename_i k z i n
    split at h
    · rename_i b hb
      split at h <;> simp at h
      rename_i hc
      obtain ⟨rfl, rfl⟩ := h
      obtain ⟨hpl, hsz, hle⟩ := hc
      obtain ⟨_, hv | hv⟩ := hv
      · obtain ⟨pl, cap, ad, hj, hz, rfl, hcap, had, _⟩ := hv
        have hB := hr.som _ _ _ hb hj
        obtain ⟨vs, h1, h2, h3⟩ := rows_read hB i n hle
        have hlen : ((b.els.drop i).take n).length = n := by simp; omega
        refine ⟨vs, by rw [hlen, h1, hsz], by simp [Builtin.lenOf]; omega, ?_, h2, fun e he => by rw [← hsz]; exact hB.len e (List.mem_of_mem_drop (List.mem_of_mem_take he)), fun e he => hB.pl hpl e (List.mem_of_mem_drop (List.mem_of_mem_take he))⟩
        rw [hlen]
        simp only [Builtin.firstCells]
        rw [← hsz, ← h1]
        refine run_loadCells_list w ad vs fun m v hv => ?_
        rcases Nat.eq_zero_or_pos n with h0 | h0
        · subst h0; simp at h1; subst h1; simp at hv
        · rw [had (by right; omega)]; exact h3 m v hv
      · obtain ⟨hj, rfl, rfl⟩ := hv
        exact ⟨[], by simp, by simp [Builtin.lenOf], by simp [Builtin.firstCells], by simp [All2], by simp, by simp⟩
    · cases h
  · cases h
theorem RelB.of_heap {j : J} {b : Blk} {p : Place} {w w' : World} (h : RelB j b p w) (hw : w'.heap = w.heap) : RelB j b p w' := h.world (by rw [hw]) (by rw [hw]; exact Nat.le_refl _)
theorem RelH.of_heap {j : J} {get : Key → Option Blk} {w w' : World} (h : RelH j get w) (hw : w'.heap = w.heap) : RelH j get w' :=
  ⟨h.non, fun k b p hk hj => (h.som k b p hk hj).of_heap hw, h.dis⟩
theorem first_any {sz : Nat} {x : V} {v : Value} {ks : List Key} {xs : List (List Cell)} {new : List Value} (hr : RelH j σ.get w) (hv : RelV j x v) (h : rowsOf σ.get sz x = some (ks, xs)) (hf : (Builtin.firstCells sz xs.length v).run P w = .ok new.toArray w) {w' : World} (hw : w'.heap = w.heap) : (Builtin.firstCells sz xs.length v).run P w' = .ok new.toArray w' := by
  have hc : ∀ a, w'.cell? a = w.cell? a := fun a => by simp only [World.cell?, hw]
  obtain ⟨vs', _, _, h1, _⟩ := run_first (P := P) (hr.of_heap hw) hv h
  obtain ⟨vs, _, _, h2, _⟩ := run_first (P := P) hr hv h
  rw [h1]
  congr 1
  unfold rowsOf at h
  split at h
  · simp at h; obtain ⟨rfl, rfl⟩ := h
    have hv : v = .slice none 0 0 := hv
    subst hv
    simp [Builtin.firstCells] at h1 hf
    rw [h1, hf]
  · rename_i k z i n
    split at h
    · rename_i b hb
      split at h <;> simp at h
      rename_i hc2
      obtain ⟨rfl, rfl⟩ := h
      have hlen : ((b.els.drop i).take n).length = n := by simp; omega
      rw [hlen] at h1 hf
      obtain ⟨_, hv | hv⟩ := hv
      · obtain ⟨pl, cap, ad, hj, hz, rfl, hcap, had, _⟩ := hv
        have hB := hr.som _ _ _ hb hj
        obtain ⟨us, q1, q2, q3⟩ := rows_read hB i n hc2.2.2
        have key : ∀ w2 : World, (∀ a, w2.cell? a = w.cell? a) → (Builtin.firstCells sz n (.slice (some ad) n cap)).run P w2 = .ok us.toArray w2 := by
          intro w2 hw2
          simp only [Builtin.firstCells]
          rw [← hc2.2.1, ← q1]
          refine run_loadCells_list w2 ad us fun m v hv => ?_
          rw [hw2]
          rcases Nat.eq_zero_or_pos n with h0 | h0
          · subst h0; simp at q1; subst q1; simp at hv
          · rw [had (by right; omega)]; exact q3 m v hv
        have k1 := key w' hc
        have k2 := key w (fun _ => rfl)
        rw [k1] at h1; rw [k2] at hf
        simp at h1 hf
        rw [← h1, ← hf]
      · obtain ⟨hj, rfl, rfl⟩ := hv
        simp [Builtin.firstCells] at h1 hf
        rw [h1, hf]
    · cases h
  · cases h
theorem grow_le (m : Nat) : ∀ r c, Builtin.growBy m r c ≤ max c (2 * m + 1000)
  | 0, c => by simp [Builtin.growBy]; omega
  | r + 1, c => by
    simp only [Builtin.growBy]
    split
    · omega
    · have := grow_le m r (c + (c + 768) / 4)
      omega
theorem next_le (m c : Nat) (h : c < m) : Builtin.nextslicecap m c ≤ 2 * m + 1000 := by
  unfold Builtin.nextslicecap
  split
  · omega
  · split
    · omega
    · have := grow_le m 4 c; omega
theorem allPlain_cellsKeys {cs : List Cell} (h : allPlain cs = true) : cellsKeys cs = [] := by
  induction cs with
  | nil => rfl
  | cons c r ih =>
    simp only [allPlain, Bool.and_eq_true] at h
    simp [cellsKeys, plain_keys h.1, ih h.2]
theorem plain_congr {j' : J} : ∀ {es : List (List Cell)} {vs : List Value}, (∀ e ∈ es, allPlain e = true) → All2 (RelC1 j) es.flatten vs → All2 (RelC1 j') es.flatten vs :=
  fun hp h => h.impM fun c hc v hv => hv.congr fun k hk => by
    obtain ⟨e, he, hce⟩ := List.mem_flatten.1 hc
    rw [plain_keys (allPlain_mem (hp e he) hce)] at hk; cases hk
/-- One more block is given up. -/
theorem Post.drop {j j' : J} {get : Key → Option Blk} {x : V} {r r' : List Key} {ws : List (Key × Option Blk)} {ns : List Nat} {v : Value} {w w' : World} {k : Key} (h : Post j j' get ⟨x, r, ws, ns⟩ v w w') : Post j j' get ⟨x, r', (k, none) :: ws, ns⟩ v w w' := by
  have hl : ∀ k' b, lastW k' ((k, none) :: ws) = some (some b) ↔ lastW k' ws = some (some b) := by
    intro k' b; simp only [lastW]
    cases lastW k' ws with
    | some x => simp
    | none => simp
  have hs : ∀ k', (lastW k' ws).isSome = true → (lastW k' ((k, none) :: ws)).isSome = true := by
    intro k' hk; simp only [lastW]
    cases h : lastW k' ws with
    | some x => simp
    | none => simp [h] at hk
  refine ⟨h.jk, h.v, fun k' b hk => h.non k' b ((hl k' b).1 hk), fun k' b p hk => h.som k' b p ((hl k' b).1 hk), fun k1 k2 b1 b2 p1 p2 hk1 hk2 => h.dis k1 k2 b1 b2 p1 p2 ((hl k1 b1).1 hk1) ((hl k2 b2).1 hk2), fun k' b hk => h.ow k' b ((hl k' b).1 hk), ?_, fun k' b p hk hj => ?_⟩
  · exact ⟨h.fr.os, h.fr.tape, h.fr.output, h.fr.size, fun i hi hn => h.fr.block i hi fun ⟨k0, b0, p0, q1, q2, q3, q4, q5⟩ => hn ⟨k0, b0, p0, q1, q2, q3, q4, hs k0 q5⟩⟩
  · rcases h.nw k' b p ((hl k' b).1 hk) hj with q | ⟨k0, b0, p0, q1, q2, q3, q4, q5⟩
    · exact .inl q
    · exact .inr ⟨k0, b0, p0, q1, q2, q3, q4, hs k0 q5⟩
/-- A row without a place: nil. -/
theorem nil_post {get : Key → Option Blk} {d T n : Nat} {pl : Bool} {r : List Key} : ∃ j', Post j j' get ⟨.c (.slc (.l d) n 0 0), r, [(.l d, some ⟨T, n, true, pl, []⟩)], [d]⟩ (.slice none 0 0) w w := by
  let j' : J := fun k => if k = .l d then none else j k
  have hd : j' (.l d) = none := by simp [j']
  refine ⟨j', ⟨fun k hk => ?_, ⟨by simp [maxS], .inr ⟨hd, rfl, rfl⟩⟩, ?_, ?_, ?_, ?_, RelW.refl _ _, ?_⟩⟩
  · simp [j', hk d (by simp)]
  · intro k b h _; obtain ⟨rfl, hb⟩ := lastW_one h; simp only [Option.some.injEq] at hb; subst hb; rfl
  · intro k b p h hj; obtain ⟨rfl, hb⟩ := lastW_one h; rw [hd] at hj; cases hj
  · intro k k' b b' p p' h h' hne; obtain ⟨rfl, hb⟩ := lastW_one h; obtain ⟨rfl, hb'⟩ := lastW_one h'; exact absurd rfl hne
  · intro k b h; obtain ⟨rfl, hb⟩ := lastW_one h; simp only [Option.some.injEq] at hb; subst hb; rfl
  · intro k b p h hj; obtain ⟨rfl, hb⟩ := lastW_one h; rw [hd] at hj; cases hj
end Go.Ab

namespace Go.Ab
variable {P : Program} {nt : Nat} {w0 : World} {W : Wr} {j : J} {σ : St} {a : Act} {w : World} {o : Oper}

theorem flat_take_len {n : Nat} {els : List (List Cell)} (h : ∀ e ∈ els, e.length = n) : els.flatten.length = els.length * n := flat_len h
/-- Room was there: the new elements lie behind the old ones. -/
theorem inplace_post {k : Key} {b : Blk} {pl : Place} {n : Nat} {xs : List (List Cell)} {vs : List Value} {d : Nat} {r : List Key} {get : Key → Option Blk} (hb : get k = some b) (hj : j k = some pl) (hB : RelB j b pl w) (hown : b.own = true) (hpl : b.pl = true)
    (hn : n ≤ b.els.length) (hxl : ∀ e ∈ xs, e.length = b.sz) (hxp : ∀ e ∈ xs, allPlain e = true) (hx : All2 (RelC1 j) xs.flatten vs) (hfit : n + xs.length ≤ pl.cap) (hmax : n + xs.length < maxS) {cur : Array Value} (hh : w.heap[pl.block]? = some (.cells cur b.T (0, 0))) :
    ∃ j', Post j j' get ⟨.c (.slc (.l d) b.sz 0 (n + xs.length)), r, [(k, none), (.l d, some ⟨b.T, b.sz, true, true, b.els.take n ++ xs⟩)], [d]⟩ (.slice (some (addrOf pl 0 0)) (n + xs.length) pl.cap) w
      (w.setRow pl.block (cur.toList.take (n * b.sz) ++ vs ++ cur.toList.drop (n * b.sz + vs.length)).toArray) := by
  obtain ⟨hbase, hcap, cur', hh', hsize⟩ := hB.ow hown
  rw [hh] at hh'; obtain rfl : cur = cur' := by simpa using hh'
  let j' : J := fun k' => if k' = .l d then some pl else j k'
  have hd : j' (.l d) = some pl := by simp [j']
  have hvl : vs.length = xs.length * b.sz := by rw [← hx.length]; exact flat_len hxl
  have hend : n * b.sz + vs.length ≤ cur.size := by
    rw [hsize, hvl, ← Nat.add_mul]; exact Nat.mul_le_mul_right _ hfit
  let cs' : Array Value := (cur.toList.take (n * b.sz) ++ vs ++ cur.toList.drop (n * b.sz + vs.length)).toArray
  have hheap' : (w.setRow pl.block cs').heap[pl.block]? = some (.cells cs' b.T (0, 0)) := setRow_heap w _ _ _ _ _ hh
  have hsize' : cs'.size = cur.size := by simp [cs']; omega
  have hget1 : ∀ m, m < n * b.sz → cs'[m]? = cur[m]? := by
    intro m hm
    simp only [cs', List.getElem?_toArray, List.append_assoc]
    rw [List.getElem?_append_left (by simp; omega), List.getElem?_take, if_pos hm]; simp
  have hget2 : ∀ m, n * b.sz ≤ m → m < n * b.sz + vs.length → cs'[m]? = vs[m - n * b.sz]? := by
    intro m h1 h2
    have h3 : (cur.toList.take (n * b.sz)).length = n * b.sz := by simp; omega
    simp only [cs', List.getElem?_toArray, List.append_assoc]
    rw [List.getElem?_append_right (by omega), h3, List.getElem?_append_left (by omega)]
  have hcell : ∀ i k', (w.setRow pl.block cs').cell? (addrOf pl i k') = cs'[i * b.sz + k']? := by
    intro i k'
    simp only [addrOf, hbase, hB.sz, Nat.zero_add]
    exact cell_setRow_same w _ _ _ _ _ _ hh
  have hB' : RelB j' ⟨b.T, b.sz, true, true, b.els.take n ++ xs⟩ pl (w.setRow pl.block cs') := by
    have hmem : ∀ e ∈ b.els.take n ++ xs, e ∈ b.els ∨ e ∈ xs := fun e he => by
      rcases List.mem_append.1 he with h | h
      · exact .inl (List.mem_of_mem_take h)
      · exact .inr h
    have hplain : ∀ e ∈ b.els.take n ++ xs, allPlain e = true := fun e he => (hmem e he).elim (hB.pl hpl e) (hxp e)
    have hto : ∀ {c : Cell} {v : Value}, c.plain = true → RelC1 j c v → RelC1 j' c v := fun hc h => h.congr fun k hk => by rw [plain_keys hc] at hk; cases hk
    have htl : (b.els.take n).length = n := by simp; omega
    refine ⟨by simpa using hB.lt, hB.sz, by rw [hB.own, hown], ?_, fun _ => hplain, ?_, fun _ => ⟨hbase, by simp; omega, cs', hheap', by rw [hsize']; exact hsize⟩⟩
    · intro e he
      rcases hmem e he with h | h
      · exact hB.len e h
      · exact hxl e h
    · intro i e he k' c hk
      have hpc : c.plain = true := allPlain_mem (hplain e (List.mem_of_getElem? he)) (List.mem_of_getElem? hk)
      rw [hcell]
      rw [List.getElem?_append] at he
      split at he
      · rename_i hi
        rw [htl] at hi
        rw [List.getElem?_take, if_pos hi] at he
        have hkl : k' < b.sz := by
          have := hB.len e (List.mem_of_getElem? he)
          rcases Nat.lt_or_ge k' e.length with h | h
          · omega
          · rw [List.getElem?_eq_none h] at hk; cases hk
        obtain ⟨v, q1, q2⟩ := hB.rd i e he k' c hk
        refine ⟨v, ?_, hto hpc q2⟩
        rw [hget1 _ (by have := Nat.mul_le_mul_right b.sz (show i + 1 ≤ n by omega); rw [Nat.succ_mul] at this; omega), ← q1]
        simp [World.cell?, addrOf, hbase, hB.sz, hh]
      · rename_i hi
        rw [htl] at hi he
        have hf := flat_get hxl he hk
        obtain ⟨v, q1, q2⟩ := hx.get hf
        refine ⟨v, ?_, hto hpc q2⟩
        have hlt : (i - n) * b.sz + k' < vs.length := by
          rcases Nat.lt_or_ge ((i - n) * b.sz + k') vs.length with h | h
          · exact h
          · rw [List.getElem?_eq_none h] at q1; cases q1
        have e1 : i * b.sz = n * b.sz + (i - n) * b.sz := by rw [← Nat.add_mul]; congr 1; omega
        rw [hget2 _ (by omega) (by omega), show i * b.sz + k' - n * b.sz = (i - n) * b.sz + k' by omega]
        exact q1
  have hL : ∀ k1 b1, lastW k1 [(k, none), (Key.l d, some (⟨b.T, b.sz, true, true, b.els.take n ++ xs⟩ : Blk))] = some (some b1) → k1 = .l d ∧ b1 = ⟨b.T, b.sz, true, true, b.els.take n ++ xs⟩ := by
    intro k1 b1 h
    simp only [lastW] at h
    by_cases h1 : Key.l d = k1
    · rw [if_pos h1] at h; exact ⟨h1.symm, by simpa [eq_comm] using h⟩
    · rw [if_neg h1] at h; simp at h
  have hks : (lastW k [(k, none), (Key.l d, some (⟨b.T, b.sz, true, true, b.els.take n ++ xs⟩ : Blk))]).isSome = true := by
    simp only [lastW]
    by_cases h1 : Key.l d = k
    · rw [if_pos h1]; rfl
    · rw [if_neg h1]; simp
  refine ⟨j', ⟨fun k' hk => by simp [j', hk d (by simp)], ⟨hmax, .inl ⟨pl, pl.cap, _, hd, hB.sz, rfl, hfit, fun _ => rfl, fun _ _ => rfl⟩⟩, ?_, ?_, ?_, ?_, ?_, ?_⟩⟩
  · intro k1 b1 h hn; obtain ⟨rfl, rfl⟩ := hL k1 b1 h; rw [hd] at hn; cases hn
  · intro k1 b1 p h hp; obtain ⟨rfl, rfl⟩ := hL k1 b1 h; rw [hd] at hp; cases hp; exact hB'
  · intro k1 k2 b1 b2 p1 p2 h1 h2 hne; obtain ⟨rfl, rfl⟩ := hL k1 b1 h1; obtain ⟨rfl, rfl⟩ := hL k2 b2 h2; exact absurd rfl hne
  · intro k1 b1 h; obtain ⟨rfl, rfl⟩ := hL k1 b1 h; rfl
  · refine ⟨rfl, rfl, rfl, by simp, fun i hi hn => ?_⟩
    by_cases hib : i = pl.block
    · exact absurd ⟨k, b, pl, hb, hown, hj, hib.symm, hks⟩ hn
    · exact setRow_other w _ _ _ hib
  · intro k1 b1 p h hp; obtain ⟨rfl, rfl⟩ := hL k1 b1 h; rw [hd] at hp; cases hp
    exact .inr ⟨k, b, pl, hb, hown, hj, rfl, hks⟩

theorem zeroCells_len (z : Array Value) (n : Nat) : (Builtin.zeroCells z n).size = n * z.size := by simp [Builtin.zeroCells]
/-- What append comes to where there is no room. -/
theorem run_grow {t u E : TypeId} {sz by_ : Nat} {z : List Cell} {ty : TypeId} {b : Option Addr} {n cap : Nat} {x : Value} {m : Nat} {old new : List Value} (ht : P.underlying t = some (.slice E)) (hu : ∃ E', P.underlying u = some (.slice E')) (hs : sizeT P E = some sz) (hby : bytesT P E = some by_) (hz : zeroT P E = some z)
    (hm : (Builtin.lenOf x).run P w = .ok m w) (hnew : ∀ w', w'.heap = w.heap → (Builtin.firstCells sz m x).run P w' = .ok new.toArray w') (hold : ∀ w', w'.heap = w.heap → (Builtin.firstCells sz n (.slice b n cap)).run P w' = .ok old.toArray w')
    (hno : ¬ n + m ≤ cap) (hmax : n + m ≤ maxRow) (hb : by_ ≤ 1024) :
    ∃ newCap v w1, n + m ≤ newCap ∧ (∃ rest : List Value, rest.length = (newCap - (n + m)) * z.length ∧ w1.heap = w.heap.push (.cells (old ++ new ++ rest).toArray E)) ∧ v = .slice (some ⟨w.heap.size, 0, none⟩) (n + m) newCap ∧ w1.os = w.os ∧ w1.tape = w.tape ∧ w1.output = w.output ∧
      (Builtin.append_ #[t, u] ty #[.slice b n cap, x]).run P w = .ok v w1 := by
  obtain ⟨E', hu⟩ := hu
  obtain ⟨zv, z1, z2, _⟩ := run_zero hz w
  have hzl : zv.cells.size = z.length := by have := (z2 (fun _ => none)).length; simp at this; omega
  cases hi : P.info? E with
  | none => simp [sizeT, hi] at hs
  | some i =>
    have hi1 : i.size = sz := by simpa [sizeT, hi] using hs
    have hi2 : i.bytes = by_ := by simpa [bytesT, hi] using hby
    have hcap : Builtin.nextslicecap (n + m) cap * i.bytes ≤ 2 ^ 48 := by
      have := next_le (n + m) cap (by omega)
      rw [hi2]
      calc _ ≤ (2 * (n + m) + 1000) * 1024 := Nat.mul_le_mul this hb
        _ ≤ _ := by unfold maxRow at hmax; omega
    have hmaxI : ¬ ((n + m : Nat) : Int) > IntKind.i64.max := by unfold maxRow at hmax; simp [IntKind.max, IntKind.signed, IntKind.bits]; omega
    have hz0 : ∀ w', (zeroValue E).run P w' = .ok zv w' := by
      intro w'
      obtain ⟨v', q1, _⟩ := run_zero hz w'
      have : (zeroValue E).run P w = .ok zv w := z1
      simp only [zeroValue, typeInfo, hi, Sem.run_bind, run_program, Result.andThen_ok] at this ⊢
      cases hq : i.zero with
      | none => simp [hq] at this
      | some v2 => simp [hq] at this ⊢; exact this
    let newCap : Nat := (n + m) + w.tape w.drawn (.appendCap (n + m) cap E) % (2 ^ 63 - (n + m))
    refine ⟨newCap, _, { w with drawn := w.drawn + 1, heap := w.heap.push (.cells (old ++ new ++ (Builtin.zeroCells zv.cells (newCap - (n + m))).toList).toArray E) }, by simp only [newCap]; omega, ⟨(Builtin.zeroCells zv.cells (newCap - (n + m))).toList, by simp [zeroCells_len, hzl], rfl⟩, rfl, rfl, rfl, rfl, ?_⟩
    have e1 := hold w.drew rfl
    have e2 := hnew w.drew rfl
    have e3 : ¬ (Builtin.nextslicecap (n + m) cap * i.bytes > 2 ^ 48) := by omega
    have q1 : ¬ (9223372036854775807 < (n : Int) + (m : Int) ∧ i.bytes = 0) := by unfold maxRow at hmax; omega
    have q2 : ¬ 281474976710656 < Builtin.nextslicecap (n + m) cap * i.bytes := by omega
    simp [Builtin.append_, run_under ht, run_under hu, run_size hs, hm, typeInfo, hi, hno, q1, q2, Question.forced, Question.cut, e1, e2, hz0, newRow, newCap]
    have harr : ∀ Z : Array Value, old.toArray ++ (new.toArray ++ Z) = (old ++ (new ++ Z.toList)).toArray := fun Z => by apply Array.ext'; simp
    rw [harr]; rfl
theorem run_fits {t u E : TypeId} {sz : Nat} {ty : TypeId} {b : Option Addr} {n cap : Nat} {x : Value} {m : Nat} {new : List Value} (ht : P.underlying t = some (.slice E)) (hu : ∃ E', P.underlying u = some (.slice E')) (hs : sizeT P E = some sz)
    (hm : (Builtin.lenOf x).run P w = .ok m w) (hnew : (Builtin.firstCells sz m x).run P w = .ok new.toArray w) (hfit : n + m ≤ cap) :
    (Builtin.append_ #[t, u] ty #[.slice b n cap, x]).run P w = (match b with
      | some a => ((storeCells (a.add (n * sz)) new).run P w).andThen fun _ w' => .ok (.slice b (n + m) cap) w'
      | none => .ok (.slice b (n + m) cap) w) := by
  obtain ⟨E', hu⟩ := hu
  cases b <;> simp [Builtin.append_, run_under ht, run_under hu, run_size hs, hm, hfit, hnew]
theorem append_ex {x y : Operand} {c : Call} {t u : TypeId} {v : Value} {w' : World} (h : o.op = .call c) (hb : c.callee = .builtin .append) (hx : c.args.toList = [x, y]) (ht : c.argTypes.toList = [t, u]) (hrun : (Builtin.append_ #[t, u] o.type #[a.eval x, a.eval y]).run P w = .ok v w') : (execOp a.eval o).run P w = .ok (.value v) w' := by
  have h1 : c.args = #[x, y] := by rw [← Array.toList_inj]; simpa using hx
  have h2 : c.argTypes = #[t, u] := by rw [← Array.toList_inj]; simpa using ht
  simp [execOp, h, resolve, hb, invoke, builtin, h1, h2, hrun]
/-- A new row by append. -/
theorem grown_post {d T n cap : Nat} {es : List (List Cell)} {vs : List Value} {r : List Key} {get : Key → Option Blk} {w1 : World} {rest : List Value} (hl : ∀ e ∈ es, e.length = n) (hp : ∀ e ∈ es, allPlain e = true) (hx : All2 (RelC1 j) es.flatten vs) (hcap : es.length ≤ cap) (hr : rest.length = (cap - es.length) * n) (hmax : es.length < maxS)
    (hw1 : w1.heap = w.heap.push (.cells (vs ++ rest).toArray T)) (h1 : w1.os = w.os) (h2 : w1.tape = w.tape) (h3 : w1.output = w.output) :
    ∃ j', Post j j' get ⟨.c (.slc (.l d) n 0 es.length), r, [(.l d, some ⟨T, n, true, true, es⟩)], [d]⟩ (.slice (some ⟨w.heap.size, 0, none⟩) es.length cap) w w1 := by
  have hvl : vs.length = es.length * n := by rw [← hx.length]; exact flat_len hl
  refine newRow_post (x := fun _ => .c (.slc (.l d) n 0 es.length)) (fun j' _ => plain_congr hp hx) hl (fun _ => hp) hcap ?_ ?_ hw1 h1 h2 h3
  · rw [List.length_append, hvl, hr, ← Nat.add_mul]; congr 1; omega
  · intro j' hj'
    exact ⟨hmax, .inl ⟨_, cap, _, hj', rfl, rfl, hcap, fun _ => by simp [addrOf], fun _ _ => rfl⟩⟩
theorem op_app (hr : Rel nt w0 W j σ a w) {x y : Operand} {c : Call} {s1 s2 : Src} {t u E : TypeId} {sz by_ : Nat} {z : List Cell} {pl : Bool} (h : o.op = .call c) (hb : c.callee = .builtin .append) (hx : c.args.toList = [x, y]) (hty : c.argTypes.toList = [t, u])
    (ht : P.underlying t = some (.slice E)) (hu : ∃ E', P.underlying u = some (.slice E')) (hs : sizeT P E = some sz) (hby : bytesT P E = some by_) (hz : zeroT P E = some z) (hzl : z.length = sz) (h1 : srcOf x = some s1) (h2 : srcOf y = some s2)
    {call : CallF} {d : Nat} {e : Eff} (hf : fp call σ.ev σ.get d (.app E sz by_ pl s1 s2) = some e) : Goal P j σ a w o e := by
  simp only [fp] at hf
  have hr1 := src_rel hr h1
  have hr2 := src_rel hr h2
  split at hf
  · -- onto nil
    rename_i ks xs hq1 hq2
    split at hf <;> simp at hf
    rename_i hc
    obtain ⟨rfl, hmax, hbytes⟩ := hc
    subst hf
    rw [hq1] at hr1
    have hv : a.eval x = .slice none 0 0 := hr1
    obtain ⟨new, hnl, hlen, hfirst, hrel, hel, hxp⟩ := run_first hr.hp hr2 hq2
    by_cases hx0 : xs.length = 0
    · have hxs : xs = [] := List.length_eq_zero_iff.1 hx0
      subst hxs
      refine .inl ⟨.slice none 0 0, w, append_ex h hb hx hty ?_, nil_post⟩
      rw [hv, run_fits ht hu hs hlen hfirst (by simp)]; simp
    · obtain ⟨newCap, v, w1, q1, ⟨rest, q2, q3⟩, rfl, q4, q5, q6, q7⟩ := run_grow (ty := o.type) (b := none) (n := 0) (cap := 0) (old := []) ht hu hs hby hz hlen (fun w' hw' => first_any hr.hp hr2 hq2 hfirst hw') (fun w' _ => by simp [Builtin.firstCells]) (by omega) (by omega) hbytes
      simp only [Nat.zero_add, List.nil_append] at q1 q2 q3 q7
      refine .inl ⟨_, w1, append_ex h hb hx hty (by rw [hv]; exact q7), ?_⟩
      exact grown_post hel hxp hrel q1 (by rw [q2, hzl]) (by unfold maxRow at hmax; unfold maxS; omega) q3 q4 q5 q6
  · rename_i k z' i n ks xs hq1 hq2
    split at hf
    · rename_i b hb'
      split at hf <;> simp at hf
      rename_i hc
      obtain ⟨rfl, hown, rfl, hn, hmax, hT, hbs, hpl, _, hbytes⟩ := hc
      subst hf; subst hT; subst hbs
      rw [hq1] at hr1
      obtain ⟨new, hnl, hlen, hfirst, hrel, hel, hxp⟩ := run_first hr.hp hr2 hq2
      have hms : n + xs.length < maxS := by unfold maxRow at hmax; unfold maxS; omega
      obtain ⟨_, hr1 | hr1⟩ := hr1
      · obtain ⟨p, cap, ad, hj, hpz, hv, hcap, had, hcp⟩ := hr1
        have had := had (.inl rfl)
        subst had
        have hB := hr.hp.som _ _ _ hb' hj
        have hcp := hcp rfl (by rw [hB.own, hown])
        subst hcp
        obtain ⟨hbase, hcap2, cur, hh, hsize⟩ := hB.ow hown
        by_cases hfit : n + xs.length ≤ p.cap
        · obtain ⟨j', hp⟩ := inplace_post (d := d) (r := k :: ks) (get := σ.get) hb' hj hB hown hpl hn hel hxp hrel hfit hms hh
          refine .inl ⟨_, _, append_ex h hb hx hty ?_, j', by simpa [hpl] using hp⟩
          rw [hv, run_fits ht hu hs hlen hfirst hfit]
          simp only
          have hao : (addrOf p 0 0).add (n * b.sz) = ⟨p.block, n * b.sz, none⟩ := by rw [addrOf_add]; simp [addrOf, hbase]
          have hend : n * b.sz + new.length ≤ cur.size := by rw [hsize, hnl, ← Nat.add_mul]; exact Nat.mul_le_mul_right _ hfit
          rw [hao, run_storeCells_at P p.block (n * b.sz) b.T new 0 cur w hh (by simpa using hend) (All2.ones hrel)]
          simp
        · have hrd := rows_read hB 0 n (by omega)
          obtain ⟨old, o1, o2, o3⟩ := hrd
          obtain ⟨newCap, v, w1, q1, ⟨rest, q2, q3⟩, rfl, q4, q5, q6, q7⟩ := run_grow (ty := o.type) (b := some (addrOf p 0 0)) (n := n) (cap := p.cap) (old := old) ht hu hs hby hz hlen (fun w' hw' => first_any hr.hp hr2 hq2 hfirst hw') (fun w' hw' => by
            simp only [Builtin.firstCells]
            rw [← o1]
            refine run_loadCells_list w' _ old fun m v hv => ?_
            rw [← o3 m v hv]; simp only [World.cell?, hw']) hfit hmax hbytes
          refine .inl ⟨_, w1, append_ex h hb hx hty (by rw [hv]; exact q7), ?_⟩
          have hes : (b.els.take n ++ xs).length = n + xs.length := by simp; omega
          have := grown_post (d := d) (T := b.T) (j := j) (get := σ.get) (r := []) (es := b.els.take n ++ xs) (vs := old ++ new) (cap := newCap) (rest := rest) (w := w) (w1 := w1) (n := b.sz) (fun e he => by
              rcases List.mem_append.1 he with h | h
              · exact hB.len e (List.mem_of_mem_take h)
              · exact hel e h) (fun e he => by
              rcases List.mem_append.1 he with h | h
              · exact hB.pl hpl e (List.mem_of_mem_take h)
              · exact hxp e h) (by rw [List.flatten_append]; exact (by simpa using o2 : All2 (RelC1 j) (b.els.take n).flatten old).append hrel) (by omega) (by rw [hes, q2, hzl]) (by omega) q3 q4 q5 q6
          rw [hes] at this
          obtain ⟨j', hp⟩ := this
          exact ⟨j', by simpa [hpl] using hp.drop⟩
      · obtain ⟨hj, rfl, hv⟩ := hr1
        have hbe := hr.hp.non _ _ hb' hj
        by_cases hx0 : xs.length = 0
        · have hxs : xs = [] := List.length_eq_zero_iff.1 hx0
          subst hxs
          refine .inl ⟨.slice none 0 0, w, append_ex h hb hx hty ?_, ?_⟩
          · rw [hv, run_fits ht hu hs hlen hfirst (by simp)]; simp
          · obtain ⟨j', hp⟩ := nil_post (j := j) (w := w) (get := σ.get) (d := d) (T := b.T) (n := b.sz) (pl := true) (r := [])
            exact ⟨j', by simpa [hpl] using hp.drop⟩
        · obtain ⟨newCap, v, w1, q1, ⟨rest, q2, q3⟩, rfl, q4, q5, q6, q7⟩ := run_grow (ty := o.type) (b := none) (n := 0) (cap := 0) (old := []) ht hu hs hby hz hlen (fun w' hw' => first_any hr.hp hr2 hq2 hfirst hw') (fun w' _ => by simp [Builtin.firstCells]) (by omega) (by omega) hbytes
          simp only [Nat.zero_add, List.nil_append] at q1 q2 q3 q7
          refine .inl ⟨_, w1, append_ex h hb hx hty (by rw [hv]; exact q7), ?_⟩
          obtain ⟨j', hp⟩ := grown_post (j := j) (get := σ.get) (d := d) (r := []) hel hxp hrel q1 (by rw [q2, hzl]) (by omega) q3 q4 q5 q6
          exact ⟨j', by simpa [hpl] using hp.drop⟩
    · cases hf
  · cases hf
end Go.Ab

namespace Go.Ab
variable {P : Program} {nt : Nat} {w0 : World} {W : Wr} {j : J} {σ : St} {a : Act} {w : World} {o : Oper}

theorem onesOf_rel {j' : J} {n : Nat} : ∀ {vs : List V} {us : List Value} {els : List (List Cell)}, All2 (RelV j') vs us → onesOf vs = some els → (∀ e ∈ els, e.length = n) →
    els.length = us.length ∧ All2 (fun (e : List Cell) (u : Value) => All2 (RelC1 j') e u.cells.toList) els us
  | [], [], els, _, h, _ => by simp [onesOf] at h; subst h; exact ⟨rfl, trivial⟩
  | v :: r, u :: us, els, h1, h, hl => by
    simp only [onesOf] at h
    split at h <;> simp at h
    rename_i c r' hc hr
    subst h
    obtain ⟨e1, e2⟩ := onesOf_rel (n := n) h1.2 hr (fun e he => hl e (by simp [he]))
    exact ⟨by simp [e1], cells_rel hc h1.1, e2⟩
theorem flat_rel {j' : J} : ∀ {els : List (List Cell)} {us : List Value}, All2 (fun (e : List Cell) (u : Value) => All2 (RelC1 j') e u.cells.toList) els us → All2 (RelC1 j') els.flatten (us.flatMap fun u => u.cells.toList)
  | [], [], _ => trivial
  | e :: r, u :: us, h => by simpa using h.1.append (flat_rel h.2)
/-- The parts of a literal, all there, in order. -/
theorem fill_all {n : Nat} : ∀ (us : List Value) (k : Nat) (pre cur : List Value), (∀ u ∈ us, u.cells.size = n) → pre.length = k * n → cur.length = us.length * n →
    Instr.fill (fun i => some (i * n, n)) (pre ++ cur).toArray ((us.zipIdx k).map fun x => (x.2, x.1)) = some (pre ++ us.flatMap fun u => u.cells.toList).toArray
  | [], k, pre, cur, _, _, hc => by
    have : cur = [] := List.length_eq_zero_iff.1 (by simpa using hc)
    subst this; simp [Instr.fill]
  | u :: us, k, pre, cur, hu, hp, hc => by
    have h1 := hu u (by simp)
    simp only [List.length_cons, Nat.succ_mul] at hc
    simp only [List.zipIdx_cons, List.map_cons, Instr.fill]
    rw [if_neg (by simp [h1]; omega)]
    rw [← Array.foldl_toList, Array.toList_zipIdx, fold_set (k * n) u.cells.toList 0 _ (by simp [h1]; omega)]
    have e1 : ((pre ++ cur).toArray.toList.take (k * n + 0)) = pre := by simp [← hp]
    have e2 : ((pre ++ cur).toArray.toList.drop (k * n + 0 + u.cells.toList.length)) = cur.drop n := by
      simp [h1, ← hp]
    rw [e1, e2]
    have := fill_all us (k + 1) (pre ++ u.cells.toList) (cur.drop n) (fun x hx => hu x (by simp [hx])) (by simp [hp, h1, Nat.succ_mul]) (by simp; omega)
    rw [List.append_assoc] at this
    simpa [List.append_assoc] using this
theorem partsL_spec : ∀ {k : Nat} {ps : List (Nat × Operand)} {ss : List Src}, partsL k ps = some ss → ∃ xs : List Operand, srcsOf xs = some ss ∧ ps = (xs.zipIdx k).map fun x => (x.2, x.1)
  | k, [], ss, h => by simp [partsL] at h; subst h; exact ⟨[], rfl, rfl⟩
  | k, (i, x) :: r, ss, h => by
    simp only [partsL] at h
    split at h
    · rename_i hi; subst hi
      split at h <;> simp at h
      rename_i s r' h1 h2
      subst h
      obtain ⟨xs, h3, h4⟩ := partsL_spec h2
      exact ⟨x :: xs, by simp [srcsOf, h1, h3], by simp [h4]⟩
    · cases h
theorem op_bsl (hr : Rel nt w0 W j σ a w) {t E : TypeId} {n s : Nat} {ps : Array (Nat × Operand)} {ss : List Src} {pl : Bool} {z : List Cell} (h : o.op = .buildSlice t n ps) (ht : P.underlying t = some (.slice E)) (hs : sizeT P E = some s) (hz : zeroT P E = some z) (hp : partsL 0 ps.toList = some ss) (hl : ss.length = n) (hle : n * s ≤ 1000) (h0 : s ≠ 0)
    {call : CallF} {d : Nat} (hd : d ∉ σ.cr) {e : Eff} (hf : fp call σ.ev σ.get d (.bsl E s pl ss) = some e) : Goal P j σ a w o e := by
  simp only [fp] at hf
  split at hf
  · rename_i els hels
    split at hf <;> simp at hf
    rename_i hc
    subst hf
    simp only [List.all_eq_true, Bool.and_eq_true, beq_iff_eq, Bool.or_eq_true, Bool.not_eq_true'] at hc
    have hel : ∀ e ∈ els, e.length = s := fun e he => (hc e he).1
    have hpl : pl = true → ∀ e ∈ els, allPlain e = true := fun hp e he => ((hc e he).2).resolve_left (by simp [hp])
    obtain ⟨xs, hx, hps⟩ := partsL_spec hp
    have hrel := srcs_rel hr hx
    obtain ⟨e1, e2⟩ := onesOf_rel (n := s) hrel hels hel
    have hsl : ∀ {xs : List Operand} {ss : List Src}, srcsOf xs = some ss → xs.length = ss.length := by
      intro xs
      induction xs with
      | nil => intro ss h; simp [srcsOf] at h; subst h; rfl
      | cons x r ih => intro ss h; simp only [srcsOf] at h; split at h <;> simp at h; rename_i h1 h2; subst h; simp [ih h2]
    have hxl : xs.length = n := by rw [hsl hx, hl]
    have hcs : ∀ u ∈ xs.map a.eval, u.cells.size = s := by
      have key : ∀ {els : List (List Cell)} {us : List Value}, All2 (fun (e : List Cell) (u : Value) => All2 (RelC1 j) e u.cells.toList) els us → (∀ e ∈ els, e.length = s) → ∀ u ∈ us, u.cells.size = s := by
        intro els
        induction els with
        | nil => intro us h _ u hu; cases us with | nil => cases hu | cons _ _ => exact h.elim
        | cons e r ih =>
          intro us h hl u hu
          cases us with
          | nil => cases hu
          | cons x us =>
            rcases List.mem_cons.1 hu with rfl | hu
            · have := h.1.length; rw [hl e (by simp)] at this; simpa [eq_comm] using this
            · exact ih h.2 (fun e he => hl e (by simp [he])) u hu
      exact key e2 hel
    obtain ⟨zv, z1, z2, _⟩ := run_zero hz w
    have hfill := fill_all (n := s) (xs.map a.eval) 0 [] ((List.range (n * s)).map (zv.cells[· % zv.cells.size]!)) hcs (by simp) (by simp [hxl])
    refine .inl ⟨_, _, ?_, newRow_post (els := els) (cap := els.length) (vs := (xs.map a.eval).flatMap fun u => u.cells.toList) (rest := []) (x := fun _ => .c (.slc (.l d) s 0 els.length)) (v := .slice (some ⟨w.heap.size, 0, none⟩) els.length els.length)
      (w1 := { w with heap := w.heap.push (.cells ((xs.map a.eval).flatMap fun u => u.cells.toList).toArray E) }) ?_ hel hpl (Nat.le_refl _) ?_ ?_ ?_ rfl rfl rfl⟩
    · have hn0 : n ≠ 0 → n * s ≠ 0 := fun h => Nat.mul_ne_zero h h0
      have hpm : (ps.map fun (x : Nat × Operand) => (x.1, a.eval x.2)).toList = ((xs.map a.eval).zipIdx 0).map fun x => (x.2, x.1) := by
        simp [hps, List.zipIdx_map, Function.comp_def]
      by_cases hnz : n = 0
      · subst hnz
        have : xs = [] := List.length_eq_zero_iff.1 hxl
        subst this
        have hels0 : els = [] := List.length_eq_zero_iff.1 (by simpa using e1)
        subst hels0
        simp at hpm
        have hr0 : (Array.range 0 : Array Nat) = #[] := rfl
        simp [execOp, h, Instr.buildSlice, run_under ht, run_size hs, hpm, Instr.fill, newRow, hr0]
      · have hlt : ¬ (16777216 < n * s) := by omega
        have hns : n * s ≠ 0 := hn0 hnz
        have harr : ∀ f : Nat → Value, (Array.range (n * s)).map f = ((List.range (n * s)).map f).toArray := fun f => by apply Array.ext'; simp
        have hpm' : (List.map (fun x : Nat × Operand => (x.1, a.eval x.2)) ps.toList) = ((xs.map a.eval).zipIdx 0).map fun x => (x.2, x.1) := by simpa using hpm
        simp only [List.nil_append] at hfill
        simp [execOp, h, Instr.buildSlice, run_under ht, run_size hs, hlt, hns, z1, newRow, harr, hpm', hfill]
        simp [e1, hxl]
    · intro j' hj'
      exact flat_rel (onesOf_rel (n := s) (srcs_congr hr hd hj' hx) hels hel).2
    · have := (flat_rel e2).length
      rw [flat_len hel] at this
      simp only [List.append_nil, ← this]
    · intro j' hj'
      refine ⟨?_, .inl ⟨_, els.length, _, hj', rfl, rfl, Nat.le_refl _, fun _ => by simp [addrOf], fun _ _ => rfl⟩⟩
      have : els.length ≤ n * s := by rw [e1]; simp [hxl]; exact Nat.le_mul_of_pos_right _ (by omega)
      unfold maxS; omega
    · simp
  · cases hf
theorem op_msl (hr : Rel nt w0 W j σ a w) {t E : TypeId} {s by_ : Nat} {x y : Operand} {ss : Src} {pl : Bool} {z : List Cell} (h : o.op = .makeSlice t x y) (ht : P.underlying t = some (.slice E)) (hs : sizeT P E = some s) (hby : bytesT P E = some by_) (hz : zeroT P E = some z) (hx : srcOf x = some ss) (hy : a.eval y = a.eval x)
    {call : CallF} {d : Nat} {e : Eff} (hf : fp call σ.ev σ.get d (.msl E s by_ pl z ss) = some e) : Goal P j σ a w o e := by
  simp only [fp] at hf
  split at hf
  · rename_i n hn
    split at hf <;> simp at hf
    rename_i hc
    subst hf
    obtain ⟨h0, hmax, hzl, hpl, hb⟩ := hc
    obtain ⟨hv, _⟩ := int_of hr hx hn
    obtain ⟨zv, z1, z2, _⟩ := run_zero hz w
    have hzs : zv.cells.size = s := by have := (z2 j).length; simp at this; omega
    let m := n.toNat
    have hnm : n = (m : Int) := by simp only [m]; omega
    have hm : m ≤ maxRow := by omega
    have hrep : ∀ j' : J, All2 (RelC1 j') (List.replicate m z).flatten (List.replicate m zv.cells.toList).flatten := by
      intro j'
      clear_value m
      clear hnm hm
      induction m with
      | zero => trivial
      | succ k ih => simpa [List.replicate_succ] using (z2 j').append ih
    have hfl : ∀ e ∈ List.replicate m zv.cells.toList, e.length = s := fun e he => by rw [(List.mem_replicate.1 he).2]; simpa using hzs
    have hcells : madeCells zv.cells (m * s) = (List.replicate m zv.cells.toList).flatten.toArray := by
      apply Array.ext'
      apply List.ext_getElem?
      intro k
      unfold madeCells
      by_cases hk : k < m * s
      · have hs0 : 0 < s := by rcases Nat.eq_zero_or_pos s with h | h; (subst h; simp at hk); exact h
        have hq : k / s < m := Nat.div_lt_of_lt_mul (by rwa [Nat.mul_comm])
        have ho : k % s < zv.cells.toList.length := by simp [hzs]; exact Nat.mod_lt _ hs0
        have := flat_get hfl (i := k / s) (o := k % s) (e := zv.cells.toList) (c := zv.cells.toList[k % s]) (by simp [hq]) (by simp)
        rw [show k / s * s + k % s = k by rw [Nat.mul_comm]; exact Nat.div_add_mod k s] at this
        rw [this]
        have ho' : k % s < zv.cells.size := by simpa using ho
        simp [hk, hzs, getElem!_pos zv.cells (k % s) ho']
      · have hl := flat_len hfl
        simp only [List.length_replicate] at hl
        rw [List.getElem?_eq_none (by simp; omega), List.getElem?_eq_none (by show (List.replicate m zv.cells.toList).flatten.length ≤ k; omega)]
    refine .inl ⟨_, _, ?_, newRow_post (els := List.replicate m z) (cap := m) (vs := (List.replicate m zv.cells.toList).flatten) (rest := []) (x := fun _ => .c (.slc (.l d) s 0 m)) (v := .slice (some ⟨w.heap.size, 0, none⟩) m m)
      (w1 := { w with heap := w.heap.push (.cells ((List.replicate m zv.cells.toList).flatten).toArray E) }) (fun j' _ => hrep j') ?_ ?_ (by simp) ?_ ?_ ?_ rfl rfl rfl⟩
    · cases hi : P.info? E with
      | none => simp [sizeT, hi] at hs
      | some i =>
        have hi1 : i.size = s := by simpa [sizeT, hi] using hs
        have hi2 : i.bytes = by_ := by simpa [bytesT, hi] using hby
        have hzi : i.zero = some zv := by
          simp only [zeroValue, typeInfo, hi, Sem.run_bind, run_program, Result.andThen_ok] at z1
          cases hq : i.zero with
          | none => simp [hq] at z1
          | some v2 => simp [hq] at z1; rw [z1]
        have hbytes : (i.bytes : Int) * n ≤ 281474976710656 := by
          rw [hi2, hnm]
          have : by_ * m ≤ 1024 * 1073741824 := Nat.mul_le_mul hb hm
          have : ((by_ * m : Nat) : Int) ≤ 281474976710656 := by omega
          simpa using this
        have := run_make (P := P) w t E i zv ht hi hzi .i64 .i64 n n h0 (Int.le_refl _) hbytes (by unfold maxRow at hmax; omega)
        rw [hi1] at this
        simp only [execOp, h, hy, hv, Sem.run_bind, this, Result.andThen_ok, Sem.run_pure]
        rw [show n.toNat * s = m * s from rfl, hcells]; rfl
    · intro e he; rw [(List.mem_replicate.1 he).2]; exact hzl
    · intro hp e he; rw [(List.mem_replicate.1 he).2]; exact hpl hp
    · have := flat_len hfl; simp only [List.append_nil, this, List.length_replicate]
    · intro j' hj'
      exact ⟨by unfold maxRow at hm; unfold maxS; omega, .inl ⟨_, m, _, hj', rfl, rfl, Nat.le_refl _, fun _ => by simp [addrOf], fun _ _ => rfl⟩⟩
    · simp
  · cases hf

/-! ### Carries -/
theorem next_none (s : String) (h : (Extern.allNextRows.lookup s).isNone = true) {fn : Func} (hn : fn.name = s) (ho : fn.origin = "") : Extern.findNext fn = none := by
  have h0 : (Extern.allNextRows.lookup "").isNone = true := by kernel_rfl
  simp only [Option.isNone_iff_eq_none] at h h0
  simp [Extern.findNext, hn, ho, h, h0]
def sub64Entry : Array Value → Sem Value := fun args => do
  let (x, y, b) ← Extern.MathBitsCarry.three "Sub64" args
  pure (Extern.MathBitsCarry.pair ((x + Extern.MathBitsCarry.m64 - y - b) % Extern.MathBitsCarry.m64) (if x < y + b then 1 else 0))
theorem find_add {fn : Func} (hn : fn.name = "math/bits.Add64") : Extern.find fn = some add64Entry := by
  have h1 : (Extern.allGenericRows.lookup "math/bits.Add64").isNone = true := by kernel_rfl
  have h2 : (Extern.allTypedRows.lookup "math/bits.Add64").isNone = true := by kernel_rfl
  have h3 : Extern.allRows.lookup "math/bits.Add64" = some add64Entry := by kernel_rfl
  simp only [Option.isNone_iff_eq_none] at h1 h2
  simp [Extern.find, hn, h1, h2, h3]
theorem find_sub {fn : Func} (hn : fn.name = "math/bits.Sub64") : Extern.find fn = some sub64Entry := by
  have h1 : (Extern.allGenericRows.lookup "math/bits.Sub64").isNone = true := by kernel_rfl
  have h2 : (Extern.allTypedRows.lookup "math/bits.Sub64").isNone = true := by kernel_rfl
  have h3 : Extern.allRows.lookup "math/bits.Sub64" = some sub64Entry := by kernel_rfl
  simp only [Option.isNone_iff_eq_none] at h1 h2
  simp [Extern.find, hn, h1, h2, h3]
theorem run_sub64 (x y c : Int) (hx : 0 ≤ x) (hx1 : x < word) (hy : 0 ≤ y) (hy1 : y < word) (hc0 : 0 ≤ c) (hc : c ≤ 1) (w : World) :
    (sub64Entry #[.int .u64 x, .int .u64 y, .int .u64 c]).run P w = .ok (.tuple #[.int .u64 ((x - y - c) % word), .int .u64 (b2i (decide (x < y + c)))]) w := by
  have key : ∀ k : Nat, k ≤ 1 → (sub64Entry #[.int .u64 x, .int .u64 y, .int .u64 (k : Int)]).run P w =
      .ok (Extern.MathBitsCarry.pair ((x.toNat + Extern.MathBitsCarry.m64 - y.toNat - k) % Extern.MathBitsCarry.m64) (if x.toNat < y.toNat + k then 1 else 0)) w := by
    intro k hk
    have : k = 0 ∨ k = 1 := by omega
    rcases this with rfl | rfl <;> rfl
  obtain ⟨k, rfl⟩ := Int.eq_ofNat_of_zero_le hc0
  rw [key k (by omega)]
  obtain ⟨X, rfl⟩ := Int.eq_ofNat_of_zero_le hx
  obtain ⟨Y, rfl⟩ := Int.eq_ofNat_of_zero_le hy
  simp only [Extern.MathBitsCarry.pair, Extern.MathBitsCarry.m64, Int.toNat_natCast]
  unfold word at *
  have e1 : ((((X + 2 ^ 64 - Y - k) % 2 ^ 64 : Nat)) : Int) = ((X : Int) - Y - k) % 18446744073709551616 := by omega
  have e2 : (((if X < Y + k then 1 else 0 : Nat)) : Int) = b2i (decide ((X : Int) < Y + k)) := by
    by_cases h : X < Y + k
    · have h' : (X : Int) < Y + k := by omega
      simp [h, h', b2i]
    · have h' : ¬ (X : Int) < Y + k := by omega
      simp [h, h', b2i]
  simp only [Int.ofNat_eq_natCast, e1, e2]
theorem in_u64 {n : Int} (h : inK .u64 n) : 0 ≤ n ∧ n < word := by
  obtain ⟨h1, h2⟩ := h
  simp [IntKind.min, IntKind.max, IntKind.signed, IntKind.bits] at h1 h2
  unfold word; omega
theorem u64_in {n : Int} (h0 : 0 ≤ n) (h : n < word) : inK .u64 n := by
  unfold word at h
  constructor <;> simp [IntKind.min, IntKind.max, IntKind.signed, IntKind.bits] <;> omega
theorem b2i_in (b : Bool) : inK .u64 (b2i b) := by cases b <;> unfold inK <;> decide
theorem op_carry (hr : Rel nt w0 W j σ a w) {sub : Bool} {c : Call} {f : Nat} {fn : Func} {x y z : Operand} {s1 s2 s3 : Src} (h : o.op = .call c) (hc : c.callee = .value (.func f)) (hf0 : P.funcs[f]? = some fn) (hbody : fn.body = none) (hn : fn.name = if sub then "math/bits.Sub64" else "math/bits.Add64") (ho : fn.origin = "") (ha : c.args.toList = [x, y, z])
    (h1 : srcOf x = some s1) (h2 : srcOf y = some s2) (h3 : srcOf z = some s3) {call : CallF} {d : Nat} {e : Eff} (hf : fp call σ.ev σ.get d (if sub then .sub64 s1 s2 s3 else .add64 s1 s2 s3) = some e) : Goal P j σ a w o e := by
  have hargs : c.args = #[x, y, z] := by rw [← Array.toList_inj]; simpa using ha
  have run0 : ∀ (entry : Array Value → Sem Value) (v : Value), Extern.find fn = some entry → Extern.findNext fn = none → (entry #[a.eval x, a.eval y, a.eval z]).run P w = .ok v w → (execOp a.eval o).run P w = .ok (.value v) w := by
    intro entry v he hnx hrun
    have hne : (fn.name == "runtime.NumGoroutine") = false := by rw [hn]; cases sub <;> decide
    have := run_callFunc_extern (P := P) hf0 hne (by simp [hbody]) hnx he #[a.eval x, a.eval y, a.eval z] w
    rw [hrun] at this
    simp [execOp, h, resolve, hc, Act.eval, Deferred.ofValue, invoke, hargs]
    simpa [Act.eval] using this
  cases sub
  · simp only [Bool.false_eq_true, if_false] at hf hn
    simp only [fp] at hf
    split at hf
    · rename_i p q r e1 e2 e3
      split at hf <;> simp [pure1] at hf
      rename_i hle
      subst hf
      obtain ⟨v1, i1⟩ := int_of hr h1 e1
      obtain ⟨v2, i2⟩ := int_of hr h2 e2
      obtain ⟨v3, i3⟩ := int_of hr h3 e3
      have i1 := in_u64 i1; have i2 := in_u64 i2; have i3 := in_u64 i3
      refine done_val (run0 _ _ (find_add hn) (next_none _ (by kernel_rfl) hn ho) (by rw [v1, v2, v3]; exact run_add64 p q r i1.1 i2.1 i3.1 hle w)) ⟨[.int .u64 _, .int .u64 _], rfl, ?_, ?_, trivial⟩
      · refine ⟨by unfold word; rfl, u64_in (Int.emod_nonneg _ (by unfold word; omega)) (Int.emod_lt_of_pos _ (by unfold word; omega))⟩
      · refine ⟨?_, b2i_in _⟩
        congr 1
        unfold word at *
        by_cases hh : (18446744073709551616 : Int) ≤ p + q + r
        · simp [hh, b2i]; omega
        · simp [hh, b2i]; omega
    · cases hf
  · simp only [if_true] at hf hn
    simp only [fp] at hf
    split at hf
    · rename_i p q r e1 e2 e3
      split at hf <;> simp [pure1] at hf
      rename_i hle
      subst hf
      obtain ⟨v1, i1⟩ := int_of hr h1 e1
      obtain ⟨v2, i2⟩ := int_of hr h2 e2
      obtain ⟨v3, i3⟩ := int_of hr h3 e3
      have i1 := in_u64 i1; have i2 := in_u64 i2; have i3 := in_u64 i3
      refine done_val (run0 _ _ (find_sub hn) (next_none _ (by kernel_rfl) hn ho) (by rw [v1, v2, v3]; exact run_sub64 p q r i1.1 i1.2 i2.1 i2.2 i3.1 hle w)) ⟨[.int .u64 _, .int .u64 _], rfl, ⟨rfl, ?_⟩, ⟨rfl, b2i_in _⟩, trivial⟩
      exact u64_in (Int.emod_nonneg _ (by unfold word; omega)) (Int.emod_lt_of_pos _ (by unfold word; omega))
    · cases hf
end Go.Ab
