/- THE OPERATIONS, COMPILED, AND WHAT EACH DOES TO ABSTRACT VALUES. -/
import Derived.Test.YtinenepjloodcaaCwE
namespace Go.Cw

inductive Opd where
  | t (n : Nat)
  | v (a : AV)

/-- Operations on maps; a call that hands out a row of its own. -/
inductive MOp where
  | mk (wd : Nat) (z : AV)
  | look (wd : Nat) (z : AV) (x key : Opd)
  | ent (wd : Nat) (z : AV) (x key : Opd)
  | set (x st v : Opd)
  | range (x : Opd)
  | nxt (x : Opd)
  | entry (x : Opd)
  | callF (f sz : Nat) (args : List Opd)

inductive AOp where
  | mov (x : Opd)
  | pick (c a b : Opd)
  | alloc (z : List AV)
  | box (x : Opd)
  | build (z : List AV) (ps : List (Nat × Nat × Opd))
  | bslice (sz : Nat) (z : List AV) (len : Nat) (ps : List (Nat × Nat × Opd))
  | load1 (x : Opd)
  | loadA (n : Nat) (x : Opd)
  | store (n : Nat) (x v : Opd)
  | fadr (off : Nat) (x : Opd)
  | iadrA (len sz : Nat) (x i : Opd)
  | iadrS (sz : Nat) (x i : Opd)
  | arith (op : BinOp) (x y : Opd)
  | eqB (neg : Bool) (x y : Opd)
  | eqA (L : List (Option IntKind)) (neg : Bool) (x y : Opd)
  | eqNil (kd : Nat) (neg : Bool) (x y : Opd)
  | not (x : Opd)
  | neg (x : Opd)
  | ext (i : Nat) (x : Opd)
  | slice (sz : Nat) (x : Opd) (lo hi mx : Option Opd)
  | mkfn (f : Nat) (caps : List Opd)
  | lenS (x : Opd)
  | append (sz by_ : Nat) (x y : Opd)
  | minmax (isMax : Bool) (x : Opd) (xs : List Opd)
  | call (f : Nat) (args : List Opd)
  | callv (x : Opd) (args : List Opd)
  | mp (o : MOp)

def AV.asSl : AV → Option (Bool × List (List PV) × Tok)
  | .p (.sl n xs) => some (n, xs, .no)
  | .sl n xs t => some (n, xs, t)
  | _ => none

def AV.toPV : AV → Option PV
  | .p c => some c
  | .sl n xs _ => some (.sl n xs)
  | _ => none

/-- The cells of a value that is laid into memory. -/
def AV.cells : AV → Option (List AV)
  | .agg cs => some cs
  | .junk | .tup _ => none
  | x => some [x]

def AV.one : AV → Bool
  | .agg _ | .junk | .tup _ => false
  | _ => true

def fillA : List AV → List (Nat × Nat × AV) → Option (List AV)
  | z, [] => some z
  | z, (off, size, v) :: rest =>
    match v.cells with
    | none => none
    | some cs => if cs.length = size ∧ off + size ≤ z.length then fillA (z.take off ++ cs ++ z.drop (off + size)) rest else none

def chunk (sz : Nat) : Nat → List PV → List (List PV)
  | 0, _ => []
  | n + 1, l => l.take sz :: chunk sz n (l.drop sz)

def toPVs : List AV → Option (List PV)
  | [] => some []
  | x :: xs => match x.toPV, toPVs xs with
    | some c, some cs => some (c :: cs)
    | _, _ => none

def arithA (op : BinOp) (k : IntKind) (a b : Int) : Option AV :=
  match op with
  | .add => some (.p (.int k (k.wrap (a + b))))
  | .sub => some (.p (.int k (k.wrap (a - b))))
  | .mul => some (.p (.int k (k.wrap (a * b))))
  | .quo => if b = 0 then none else some (.p (.int k (k.wrap (a.tdiv b))))
  | .rem => if b = 0 then none else some (.p (.int k (a.tmod b)))
  | .eql => some (.p (.bool (a == b)))
  | .neq => some (.p (.bool (a != b)))
  | .lss => some (.p (.bool (a < b)))
  | .leq => some (.p (.bool (a ≤ b)))
  | .gtr => some (.p (.bool (a > b)))
  | .geq => some (.p (.bool (a ≥ b)))
  | _ => none

def eqCells : List (Option IntKind) → List AV → List AV → Option Bool
  | [], [], [] => some true
  | some k :: L, .p (.int k1 a) :: cs, .p (.int k2 b) :: ds => if k1 = k ∧ k2 = k then (eqCells L cs ds).map (fun r => (a == b) && r) else none
  | none :: L, .p (.bool a) :: cs, .p (.bool b) :: ds => (eqCells L cs ds).map (fun r => (a == b) && r)
  | _, _, _ => none

def eqNilA : Nat → AV → AV → Option Bool
  | 0, x, y => match x.asSl, y.asSl with
    | some (n, _, _), some (m, _, _) => if n = true then some m else if m = true then some false else none
    | _, _ => none
  | 1, .nilptr, .nilptr => some true
  | 1, .ptr _ _, .nilptr | 1, .nilptr, .ptr _ _ | 1, .ref _ _, .nilptr | 1, .nilptr, .ref _ _ => some false
  | 2, .nilmap, .nilmap => some true
  | 2, .map _, .nilmap | 2, .nilmap, .map _ => some false
  | 3, .nilfn, .nilfn => some true
  | 3, .fn _ _, .nilfn | 3, .nilfn, .fn _ _ => some false
  | _, _, _ => none

def boundA (d : Nat) : Option AV → Option Int
  | none => some d
  | some (.p (.int _ n)) => some n
  | _ => none

def cutTok : Tok → Bool → Tok
  | .full, true => .full
  | _, _ => .no

def minmaxA (isMax : Bool) : AV → List AV → Option AV
  | x, [] => some x
  | .p (.int k a), .p (.int k' b) :: rest => if k = k' then minmaxA isMax (.p (.int k (if isMax then (if b > a then b else a) else (if b < a then b else a)))) rest else none
  | _, _ => none

/-- What a call of a function with abstract arguments comes to. -/
def ASpec (P : Program) (f : Nat) (args : List AV) (S : St) (r : AV) (S' : St) : Prop :=
  ∀ (G : Gh) (w : World) (vs : List Value), Sim G S w → RepL G w args vs →
    Calls P f vs.toArray w fun e w' => ∃ v G', e = .returned v ∧ Ext G S w G' S' w' ∧ Sim G' S' w' ∧ Rep G' w' r v ∧ ∀ k, G'.live k = true → G.live k = true

def callable (P : Program) (f : Nat) : Bool :=
  match P.funcs[f]? with
  | some fn => fn.name != "runtime.NumGoroutine" && fn.body.isSome
  | none => false

inductive CMode where
  | free
  | same
  | univ

def callA (P : Program) (m : CMode) (f : Nat) (args : List AV) (S : St) (K : AV → St → Prop) : Prop :=
  match m with
  | .free => ∃ r S', ASpec P f args S r S' ∧ S'.n = S.n ∧ K r S'
  | .same => ∃ r, ASpec P f args S r S ∧ K r S
  | .univ => ∃ r, (∀ S, ASpec P f args S r S) ∧ K r S

/-! ### Maps -/

def intsOf : List AV → Option (List Int)
  | [] => some []
  | .p (.int .i64 n) :: cs => (intsOf cs).map (n :: ·)
  | _ => none

def keyInts : AV → Option (List Int)
  | .agg cs => intsOf cs
  | _ => none

abbrev MEs := List (List Int × AV × Nat)

def findK (ks : List Int) : MEs → Option (List Int × AV × Nat)
  | [] => none
  | e :: es => if e.1 = ks then some e else findK ks es

def lookV (z : AV) (ks : List Int) (es : MEs) : AV := match findK ks es with
  | some e => e.2.1
  | none => z

def entB (ks : List Int) (es : MEs) (cl : Nat) : Nat := match findK ks es with
  | some e => e.2.2
  | none => cl

def entE (z : AV) (ks : List Int) (es : MEs) (cl : Nat) : MEs := match findK ks es with
  | some _ => es
  | none => es ++ [(ks, z, cl)]

def entC (ks : List Int) (es : MEs) (cl : Nat) : Nat := match findK ks es with
  | some _ => cl
  | none => cl + 1

def findB (b : Nat) : MEs → Option (List Int × AV × Nat)
  | [] => none
  | e :: es => if e.2.2 = b then some e else findB b es

def setB (b : Nat) (v : AV) : MEs → Option MEs
  | [] => none
  | e :: es => if e.2.2 = b then some ((e.1, v, e.2.2) :: es) else (setB b v es).map (e :: ·)

/-- What a call of a function comes to that hands out a row of its own. -/
def FSpec (P : Program) (f : Nat) (args : List AV) (xs : List (List PV)) (sz : Nat) : Prop :=
  ∀ (S : St) (G : Gh) (w : World) (vs : List Value), Sim G S w → RepL G w args vs →
    Calls P f vs.toArray w fun e w' => ∃ v G' k S', e = .returned v ∧ S.n ≤ k ∧ S'.n = k + 1 ∧ (∀ j, S'.H j = if j = k then some (.fr xs.length sz) else S.H j) ∧ Ext G S w G' S' w' ∧ Sim G' S' w' ∧ Rep G' w' (.sl xs.isEmpty xs (.vec k)) v ∧ ∀ j, j < S.n → G'.live j = true → G.live j = true

def actM (P : Program) (m : CMode) (o : MOp) (ρ : Opd → AV) (S : St) (id : Nat) (K : AV → St → Prop) : Prop :=
  match o with
  | .mk wd z => K (.map id) (S.put id (.map wd z [] 0))
  | .look wd z x key => ∃ k ks es cl, ρ x = .map k ∧ keyInts (ρ key) = some ks ∧ S.H k = some (.map wd z es cl) ∧ ks.length = wd ∧ K (lookV z ks es) S
  | .ent wd z x key => ∃ k ks es cl, ρ x = .map k ∧ keyInts (ρ key) = some ks ∧ S.H k = some (.map wd z es cl) ∧ ks.length = wd ∧
      K (.tup [lookV z ks es, .p (.int .i64 (entB ks es cl))]) (S.put k (.map wd z (entE z ks es cl) (entC ks es cl)))
  | .set x st v => ∃ k b es es' wd z cl, ρ x = .map k ∧ ρ st = .p (.int .i64 (b : Nat)) ∧ S.H k = some (.map wd z es cl) ∧ setB b (ρ v) es = some es' ∧ K (.tup []) (S.put k (.map wd z es' cl))
  | .range x => ∃ k wd z es cl, ρ x = .map k ∧ S.H k = some (.map wd z es cl) ∧ K (.ptr id 0) (S.put id (.iter k cl [] cl))
  | .nxt x => match m with
    | .free => ∃ r k since seen last wd z es cl, ρ x = .ptr r 0 ∧ S.H r = some (.iter k since seen last) ∧ S.H k = some (.map wd z es cl) ∧ (∀ e ∈ es, e.2.2 < last) ∧
        (∀ e ∈ es, e.2.2 ∉ seen → K (.tup [.p (.bool true), .agg (e.1.map fun n => .p (.int .i64 n)), e.2.1]) (S.put r (.iter k since (seen ++ [e.2.2]) cl))) ∧
        ((∀ e ∈ es, e.2.2 < since → e.2.2 ∈ seen) → K (.tup [.p (.bool false)]) S)
    | _ => False
  | .entry x => ∃ r k since seen b wd z es cl e, ρ x = .ptr r 0 ∧ S.H r = some (.iter k since (seen ++ [b]) cl) ∧ S.H k = some (.map wd z es cl) ∧ findB b es = some e ∧
      K (.tup [.agg (e.1.map fun n => .p (.int .i64 n)), e.2.1]) S
  | .callF f sz args => ∃ xs, FSpec P f (args.map ρ) xs sz ∧ K (.sl xs.isEmpty xs (.vec id)) (S.put id (.fr xs.length sz))

def act (P : Program) (m : CMode) (o : AOp) (ρ : Opd → AV) (S : St) (id : Nat) (K : AV → St → Prop) : Prop :=
  match o with
  | .mov x => K (ρ x) S
  | .pick c a b => match ρ c with
    | .p (.bool q) => if q = true then K (ρ a) S else K (ρ b) S
    | _ => False
  | .alloc z => K (.ptr id 0) (S.put id (.cells z))
  | .box x => match (ρ x).cells with
    | some cs => K (.ptr id 0) (S.put id (.cells cs))
    | none => False
  | .build z ps => match fillA z (ps.map fun q => (q.1, q.2.1, ρ q.2.2)) with
    | some cs => K (.agg cs) S
    | none => False
  | .bslice sz z len ps => match fillA (List.replicate len z).flatten (ps.map fun q => (q.1, q.2.1, ρ q.2.2)) with
    | some cs => match toPVs cs with
      | some l => K (.sl false (chunk sz len l) .full) S
      | none => False
    | none => False
  | .load1 x => match ρ x with
    | .ptr k o => match S.H k with
      | some (.cells cs) => match cs[o]? with
        | some c => K c S
        | none => False
      | _ => False
    | .ref cs o => match cs[o]? with
      | some c => K (.p c) S
      | none => False
    | _ => False
  | .loadA n x => match ρ x with
    | .ptr k o => match S.H k with
      | some (.cells cs) => o + n ≤ cs.length ∧ K (.agg ((cs.drop o).take n)) S
      | _ => False
    | .ref cs o => o + n ≤ cs.length ∧ K (.agg (((cs.drop o).take n).map .p)) S
    | _ => False
  | .store n x v => match ρ x with
    | .ptr k o => match S.H k with
      | some (.cells cs) => match (ρ v).cells with
        | some ds => ds.length = n ∧ o + n ≤ cs.length ∧ K (.tup []) (S.put k (.cells (cs.take o ++ ds ++ cs.drop (o + n))))
        | none => False
      | _ => False
    | _ => False
  | .fadr off x => match ρ x with
    | .ptr k o => K (.ptr k (o + off)) S
    | .ref cs o => K (.ref cs (o + off)) S
    | _ => False
  | .iadrA len sz x i => match ρ i with
    | .p (.int _ n) => 0 ≤ n ∧ n < len ∧ match ρ x with
      | .ptr k o => K (.ptr k (o + n.toNat * sz)) S
      | .ref cs o => K (.ref cs (o + n.toNat * sz)) S
      | _ => False
    | _ => False
  | .iadrS sz x i => match (ρ x).asSl, ρ i with
    | some (_, xs, _), .p (.int _ n) => 0 ≤ n ∧ match xs[n.toNat]? with
      | some e => e.length = sz ∧ K (.ref e 0) S
      | none => False
    | _, _ => False
  | .arith op x y => match ρ x, ρ y with
    | .p (.int k a), .p (.int k' b) => k = k' ∧ match arithA op k a b with
      | some v => K v S
      | none => False
    | _, _ => False
  | .eqB neg x y => match ρ x, ρ y with
    | .p (.bool a), .p (.bool b) => K (.p (.bool (if neg then !(a == b) else a == b))) S
    | _, _ => False
  | .eqA L neg x y => match ρ x, ρ y with
    | .agg cs, .agg ds => match eqCells L cs ds with
      | some b => K (.p (.bool (if neg then !b else b))) S
      | none => False
    | _, _ => False
  | .eqNil kd neg x y => match eqNilA kd (ρ x) (ρ y) with
    | some b => K (.p (.bool (if neg then !b else b))) S
    | none => False
  | .not x => match ρ x with
    | .p (.bool b) => K (.p (.bool (!b))) S
    | _ => False
  | .neg x => match ρ x with
    | .p (.int k n) => K (.p (.int k (k.wrap (0 - n)))) S
    | _ => False
  | .ext i x => match ρ x with
    | .tup vs => match vs[i]? with
      | some v => K v S
      | none => False
    | _ => False
  | .slice sz x lo hi mx => match (ρ x).asSl with
    | some (nil, xs, t) => (∀ e ∈ xs, e.length = sz) ∧ match boundA 0 (lo.map ρ), boundA xs.length (hi.map ρ) with
      | some l, some h => 0 ≤ l ∧ l ≤ h ∧ h ≤ xs.length ∧ (match mx with
        | none => K (.sl nil ((xs.take h.toNat).drop l.toNat) (cutTok t hi.isNone)) S
        | some m => hi.isSome = true ∧ boundA 0 (some (ρ m)) = some h ∧ K (.sl nil ((xs.take h.toNat).drop l.toNat) .full) S)
      | _, _ => False
    | none => False
  | .mkfn f caps => K (.fn f (caps.map ρ)) S
  | .lenS x => match (ρ x).asSl with
    | some (_, xs, _) => K (.p (.int .i64 xs.length)) S
    | none => False
  | .append sz by_ x y => match (ρ x).asSl, (ρ y).asSl with
    | some (n1, xs, t), some (_, ys, _) => (∀ e ∈ xs, e.length = sz) ∧ (∀ e ∈ ys, e.length = sz) ∧ (xs.length + ys.length) * by_ ≤ 140737488355328 ∧ (xs.length + ys.length) ≤ 9223372036854775807 ∧ (match t with
      | .no => False
      | .full => K (.sl (n1 && ys.isEmpty) (xs ++ ys) (.vec id)) (S.put id (.fr (xs.length + ys.length) sz))
      | .vec k => S.H k = some (.fr xs.length sz) ∧ K (.sl (n1 && ys.isEmpty) (xs ++ ys) (.vec k)) (S.put k (.fr (xs.length + ys.length) sz)))
    | _, _ => False
  | .minmax isMax x xs => match minmaxA isMax (ρ x) (xs.map ρ) with
    | some v => K v S
    | none => False
  | .call f args => callA P m f (args.map ρ) S K
  | .callv x args => match ρ x with
    | .fn f caps => callable P f = true ∧ callA P m f (args.map ρ ++ caps) S K
    | _ => False
  | .mp o => actM P m o ρ S id K

/-! ### The compiler -/

def absCell : Value → Option AV
  | .bool b => some (.p (.bool b))
  | .int k n => some (.p (.int k n))
  | .string s => some (.p (.str s))
  | .slice none 0 0 => some (.sl true [] .full)
  | .pointer none => some .nilptr
  | .map none => some .nilmap
  | .nilFunc => some .nilfn
  | _ => none

def absCells : List Value → Option (List AV)
  | [] => some []
  | v :: vs => match absCell v, absCells vs with
    | some c, some cs => some (c :: cs)
    | _, _ => none

def absV : Value → Option AV
  | .agg cs => (absCells cs.toList).map .agg
  | .func (.func f) a b => if a.isEmpty && b.isEmpty then some (.fn f []) else none
  | v => absCell v

def opd : Operand → Option Opd
  | .tmp t => some (.t t)
  | .const v => (absV v).map .v
  | .func f => some (.v (.fn f []))
  | .global _ => none

def opds : List Operand → Option (List Opd)
  | [] => some []
  | x :: xs => match opd x, opds xs with
    | some y, some ys => some (y :: ys)
    | _, _ => none

def opdO : Option Operand → Option (Option Opd)
  | none => some none
  | some x => (opd x).map some

def isAggT (P : Program) (t : TypeId) : Option Bool :=
  match P.underlying t with
  | some (.struct _) | some (.array _ _) => some true
  | some _ => some false
  | none => none

def zeroCellsOf (P : Program) (t : TypeId) : Option (List AV) :=
  match P.info? t with
  | some i => match i.zero with
    | some z => if z.cells.size = i.size then absCells z.cells.toList else none
    | none => none
  | none => none

def sizeT (P : Program) (t : TypeId) : Option Nat := (P.info? t).map (·.size)

def partsOf (place : Nat → Option (Nat × Nat)) : List (Nat × Operand) → Option (List (Nat × Nat × Opd))
  | [] => some []
  | (i, x) :: rest => match place i, opd x, partsOf place rest with
    | some (off, size), some y, some ys => some ((off, size, y) :: ys)
    | _, _, _ => none

def fieldPlaces (P : Program) : List Field → Option (List (Nat × Nat))
  | [] => some []
  | f :: fs => match sizeT P f.type, fieldPlaces P fs with
    | some s, some r => some ((f.offset, s) :: r)
    | _, _ => none

def compNil (kd : Nat) (op : BinOp) (x y : Opd) : Option AOp :=
  match op with
  | .eql => some (.eqNil kd false x y)
  | .neq => some (.eqNil kd true x y)
  | _ => none

def compBin (P : Program) (op : BinOp) (t : TypeId) (x y : Opd) : Option AOp :=
  match P.underlying t with
  | some (.int _) => match op with
    | .add | .sub | .mul | .quo | .rem | .eql | .neq | .lss | .leq | .gtr | .geq => some (.arith op x y)
    | _ => none
  | some .bool => match op with
    | .eql => some (.eqB false x y)
    | .neq => some (.eqB true x y)
    | _ => none
  | some (.struct _) | some (.array _ _) =>
    if P.eqGuardType P.depth t then none else
    match leaves P 100 t, op with
    | some L, .eql => if L.length = P.cellsOf t then some (.eqA L false x y) else none
    | some L, .neq => if L.length = P.cellsOf t then some (.eqA L true x y) else none
    | _, _ => none
  | some (.slice _) => compNil 0 op x y
  | some (.pointer _) => compNil 1 op x y
  | some (.map _ _) => compNil 2 op x y
  | some (.func _ _ _) => compNil 3 op x y
  | _ => none

/-- Is a function one that hands out a row of its own, to which its caller appends? (A choice of the compiler: sound for each.) -/
def handsOut (P : Program) (f : Nat) : Option Nat :=
  match P.funcs[f]? with
  | some fn => if fn.name = "cobweb/cobwebref11.edges" then some 5 else none
  | none => none

def compCall (P : Program) (c : Call) : Option AOp :=
  match c.callee with
  | .value f => match opd f, opds c.args.toList with
    | some (.v (.fn f [])), some args => if callable P f then (match handsOut P f with
      | some sz => some (.mp (.callF f sz args))
      | none => some (.call f args)) else none
    | some (.t n), some args => some (.callv (.t n) args)
    | _, _ => none
  | .invoke _ _ => none
  | .builtin .len => match c.argTypes.toList, c.args.toList with
    | [t], [x] => match P.underlying t, opd x with
      | some (.slice _), some y => some (.lenS y)
      | some (.array n _), some _ => some (.mov (.v (.p (.int .i64 n))))
      | _, _ => none
    | _, _ => none
  | .builtin .append => match c.argTypes.toList, c.args.toList with
    | [t, u], [x, y] => match P.underlying t, P.underlying u with
      | some (.slice e), some (.slice e') => match P.info? e, opd x, opd y with
        | some i, some x', some y' => if e = e' ∧ 0 < i.size ∧ i.zero.isSome ∧ (i.zero.map (·.cells.size)) = some i.size then some (.append i.size i.bytes x' y') else none
        | _, _, _ => none
      | _, _ => none
    | _, _ => none
  | .builtin .min => match opds c.args.toList with
    | some (x :: xs) => some (.minmax false x xs)
    | _ => none
  | .builtin .max => match opds c.args.toList with
    | some (x :: xs) => some (.minmax true x xs)
    | _ => none
  | .builtin _ => none

/-- A map's type: how many whole numbers a key has, and the zero value. -/
def mapT (P : Program) (t : TypeId) : Option (Nat × AV) :=
  match P.underlying t with
  | some (.map kt e) => match leaves P 100 kt, (P.info? e).bind (·.zero) with
    | some L, some zv => match absV zv with
      | some z => if L = List.replicate L.length (some .i64) ∧ L.length = P.cellsOf kt ∧ isAggT P kt = some true then some (L.length, z) else none
      | none => none
    | _, _ => none
  | _ => none

def compOp (P : Program) (o : Op) : Option AOp :=
  match o with
  | .move x | .assign x => (opd x).map .mov
  | .pick c a b => match opd c, opd a, opd b with
    | some c, some a, some b => some (.pick c a b)
    | _, _, _ => none
  | .alloc e => (zeroCellsOf P e).map .alloc
  | .box _ x => (opd x).map .box
  | .build t parts => match zeroCellsOf P t, P.underlying t with
    | some z, some (.struct fs) => match fieldPlaces P fs.toList with
      | some pl => (partsOf (fun i => pl[i]?) parts.toList).map (.build z)
      | none => none
    | some z, some (.array _ e) => match sizeT P e with
      | some s => (partsOf (fun i => some (i * s, s)) parts.toList).map (.build z)
      | none => none
    | _, _ => none
  | .buildSlice t len parts => match P.underlying t with
    | some (.slice e) => match zeroCellsOf P e, sizeT P e with
      | some z, some s => if len * s ≤ 2 ^ 24 ∧ 0 < s then (partsOf (fun i => some (i * s, s)) parts.toList).map (.bslice s z len) else none
      | _, _ => none
    | _ => none
  | .load t a => match isAggT P t, sizeT P t, opd a with
    | some true, some n, some x => some (.loadA n x)
    | some false, _, some x => some (.load1 x)
    | _, _, _ => none
  | .store t a v => match sizeT P t, opd a, opd v with
    | some n, some x, some y => some (.store n x y)
    | _, _, _ => none
  | .fieldAddr s x f => match P.underlying s with
    | some (.struct fs) => match fs[f]? with
      | some fd => match sizeT P fd.type, opd x with
        | some n, some y => if n = 0 then none else some (.fadr fd.offset y)
        | _, _ => none
      | none => none
    | _ => none
  | .indexAddr t x i => match P.underlying t with
    | some (.array n e) => match sizeT P e, opd x, opd i with
      | some s, some y, some j => some (.iadrA n s y j)
      | _, _, _ => none
    | some (.slice e) => match sizeT P e, opd x, opd i with
      | some s, some y, some j => some (.iadrS s y j)
      | _, _, _ => none
    | _ => none
  | .binOp op t x y _ => match opd x, opd y with
    | some x, some y => compBin P op t x y
    | _, _ => none
  | .unOp .not _ x => (opd x).map .not
  | .unOp .neg _ x => (opd x).map .neg
  | .extract x i => (opd x).map (.ext i)
  | .slice t x lo hi mx => match P.underlying t with
    | some (.slice e) => match sizeT P e, opd x, opdO lo, opdO hi, opdO mx with
      | some s, some y, some l, some h, some m => some (.slice s y l h m)
      | _, _, _, _, _ => none
    | _ => none
  | .makeFunc (.func f) first caps => if first.isEmpty then (opds caps.toList).map (.mkfn f) else none
  | .call c => compCall P c
  | .makeMap t none => (mapT P t).map fun q => .mp (.mk q.1 q.2)
  | .lookup t x k false => match mapT P t, opd x, opd k with
    | some q, some y, some j => some (.mp (.look q.1 q.2 y j))
    | _, _, _ => none
  | .mapEntry t x k => match mapT P t, opd x, opd k with
    | some q, some y, some j => some (.mp (.ent q.1 q.2 y j))
    | _, _, _ => none
  | .entryStore _ x s v => match opd x, opd s, opd v with
    | some y, some j, some u => some (.mp (.set y j u))
    | _, _, _ => none
  | .range t x => match P.underlying t, opd x with
    | some (.map _ _), some y => some (.mp (.range y))
    | _, _ => none
  | .next x false => (opd x).map fun y => .mp (.nxt y)
  | .entry x => (opd x).map fun y => .mp (.entry y)
  | _ => none

end Go.Cw
