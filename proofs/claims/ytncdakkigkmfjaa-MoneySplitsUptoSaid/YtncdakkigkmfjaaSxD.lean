import Derived.Test.YtncdakkigkmfjaaSxK
/-! The evaluator: a Prop over plain data, out of the model's own code. -/
namespace Go.Proofs.Ytncdakkigkmfjaa.Sx
open Go
set_option linter.unusedVariables false
set_option linter.unusedSimpArgs false

/-- A value as the evaluator has it: blocks are named by numbers of its own. -/
inductive SV where
  | undef
  | val (x : Value)
  | ptr (b j : Nat)                   -- cell j of block b
  | elt (b : Nat) (i : Int) (j : Nat) -- cell j of element i of row b
  | slF (b : Nat)                     -- a slice over all of row b
  | slP (b : Nat) (i n : Nat)         -- n elements of row b, from i on
  | agg (cs : List SV)
  | tup (cs : List SV)
  | fn (f : Fn) (first cap : List SV)

inductive VB where
  | cells (cs : List SV)
  | row (own : Bool) (k : RK) (xs : List (El k))

abbrev VH := Nat → Option VB

/-- What the evaluator knows at a place of the code: the slots, the blocks, the first number for a new block, what is known of slots that hold Bools. -/
structure St where
  tp : List (Nat × SV)
  hp : List (Nat × Option VB)
  next : Nat
  kn : List (Nat × Option Bool)

def lkN {α : Type} : List (Nat × α) → Nat → Option α
  | [], _ => none
  | (a, v) :: l, b => bif Nat.beq a b then some v else lkN l b

def getT (tp : List (Nat × SV)) (d : Nat) : SV := match lkN tp d with | some v => v | none => .undef
def lookH (hp : List (Nat × Option VB)) (b : Nat) : Option VB := match lkN hp b with | some v => v | none => none
def knowT (kn : List (Nat × Option Bool)) (d : Nat) : Option Bool := match lkN kn d with | some v => v | none => none
def St.get (S : St) (d : Nat) : SV := getT S.tp d
def St.look (S : St) (b : Nat) : Option VB := lookH S.hp b
def St.know (S : St) (d : Nat) : Option Bool := knowT S.kn d
def St.put : St → Option Nat → SV → List (Nat × Option VB) → St
  | ⟨tp, hp, n, kn⟩, none, _, u => ⟨tp, u ++ hp, n, kn⟩
  | ⟨tp, hp, n, kn⟩, some d, v, u => ⟨(d, v) :: tp, u ++ hp, n, (d, none) :: kn⟩
inductive R where
  | ok (s : SV) (u : List (Nat × Option VB))
  | vc (c : Prop) (s : SV) (u : List (Nat × Option VB))
  | br (t : Bool) (a b : R)
  | fail (why : String)

abbrev GC := List SV → VH → Nat → R

inductive TD where
  | int (k : IntKind) | bool | str
  | strct (fs : List (Nat × TypeId))
  | arr (n : Nat) (e : TypeId)
  | slice (e : TypeId)
  | ptr
  | other
structure TI where
  d : TD
  size : Nat
  bytes : Nat
  zero : List Value
  rk : Option RK
abbrev TT := List (Nat × TI)

def ofVal : Value → SV
  | .agg a => .agg (a.toList.map .val)
  | .tuple a => .tup (a.toList.map .val)
  | v => .val v
def arg (g : Nat → SV) : Operand → SV
  | .tmp t => g t
  | .const v => ofVal v
  | .global _ => .undef
  | .func f => .fn (.func f) [] []

def SV.cells : SV → List SV
  | .agg cs => cs
  | x => [x]

mutual
def SV.ids : SV → List Nat
  | .undef | .val _ => []
  | .ptr b _ | .elt b _ _ | .slF b | .slP b _ _ => [b]
  | .agg cs | .tup cs => idsL cs
  | .fn _ a b => idsL a ++ idsL b
def idsL : List SV → List Nat
  | [] => []
  | x :: l => x.ids ++ idsL l
end
def memN : Nat → List Nat → Bool
  | _, [] => false
  | a, b :: l => bif Nat.beq a b then true else memN a l
def hidden (ids : List Nat) (H : VH) : VH := fun b => bif memN b ids then H b else none
/-- What a call may follow: the blocks in the cells of the blocks that are handed to it, too. -/
def behind (H : VH) (ids : List Nat) : List Nat := ids.flatMap fun b => match H b with | some (.cells cs) => idsL cs | _ => []

def kindE (T : TT) (t : TypeId) : Option RK := match lkN T t with | some i => i.rk | none => none
/-- The kind of the rows of a slice type. -/
def kindS (T : TT) (t : TypeId) : Option RK := match lkN T t with | some ⟨.slice e, _, _, _, _⟩ => kindE T e | _ => none
def bytesS (T : TT) (t : TypeId) : Nat := match lkN T t with
  | some ⟨.slice e, _, _, _, _⟩ => match lkN T e with
    | some i => i.bytes
    | none => 0
  | _ => 0
def isAggT (i : TI) : Bool := match i.d with | .strct _ | .arr _ _ => true | _ => false

/-- Cells for the evaluator out of an element's cells; a slice among them is a block of its own from then on, which nobody writes. -/
def fromCS (key : Nat) : List CS → List SV × List (Nat × Option VB)
  | [] => ([], [])
  | .v x :: l => match fromCS (key + 1) l with
    | (s, u) => (.val x :: s, u)
  | .s k ys :: l => match fromCS (key + 1) l with
    | (s, u) => (.slF key :: s, (key, some (.row false k ys)) :: u)
/-- An element's cells out of the evaluator's; a row that is stored so is no longer written. -/
def toCS (H : VH) : List SV → Option (List CS × List (Nat × Option VB))
  | [] => some ([], [])
  | x :: l =>
    match toCS H l with
    | none => none
    | some (cs, u) =>
      match x with
      | .val v => some (.v v :: cs, u)
      | .slF b => match H b with
        | some (.row own k ys) => some (.s k ys :: cs, if own then (b, some (.row false k ys)) :: u else u)
        | _ => none
      | .slP b i n => match H b with
        | some (.row own k ys) => some (.s k ((ys.drop i).take n) :: cs, if own then (b, some (.row false k ys)) :: u else u)
        | _ => none
      | _ => none
def splice {α : Type} (old : List α) (j : Nat) (new : List α) : List α := old.take j ++ new ++ old.drop (j + new.length)
def lenN {α : Type} : List α → Nat
  | [] => 0
  | _ :: l => lenN l + 1

/-- (By patterns: a number is then met as it is written.) -/
def keysOf {α : Type} : List (Nat × α) → List Nat
  | [] => []
  | (b, _) :: l => b :: keysOf l

def SV.one : SV → Bool
  | .val (.agg _) | .val (.tuple _) | .undef | .agg _ | .tup _ => false
  | _ => true
/-- A row out of the cells of its elements. -/
def decAll (k : RK) : Nat → List CS → Option (List (El k))
  | _, [] => some []
  | 0, _ => none
  | n + 1, cs => match dec k (cs.take (sz k)), decAll k n (cs.drop (sz k)) with
    | some x, some xs => some (x :: xs)
    | _, _ => none

def one (l : List SV) (agg : Bool) (u : List (Nat × Option VB)) : R :=
  match agg, l with
  | true, l => .ok (.agg l) u
  | false, [x] => .ok x u
  | _, _ => .fail "load: not one cell"
/-- (By the recursor itself, as all that is run.) -/
noncomputable def guarded (c : Prop) (r : R) : R := R.rec (motive := fun _ => R) (fun s u => .vc c s u) (fun d s u => .vc (c ∧ d) s u) (fun t _ _ a b => .br t a b) (fun w => .fail w) r

def evAlloc (T : TT) (t : TypeId) (key : Nat) : R :=
  match lkN T t with
  | some ⟨.arr _ e, _, _, z, _⟩ => match kindE T e with
    | some k => match decAll k (lenN z) (z.map .v) with
      | some xs => .ok (.ptr key 0) [(key, some (.row true k xs))]
      | none => .fail "alloc: an array's cells"
    | none => .fail "alloc: an array without a kind"
  | some i => .ok (.ptr key 0) [(key, some (.cells (i.zero.map .val)))]
  | none => .fail "alloc: type"
/-- A new variable that holds x. -/
def evBox (T : TT) (t : TypeId) (x : SV) (H : VH) (key : Nat) : R :=
  bif x.cells.all SV.one then
  match lkN T t with
  | some ⟨.arr _ e, _, _, _, _⟩ => match kindE T e with
    | some k => match toCS H x.cells with
      | some (cs, u) => match decAll k (lenN cs) cs with
        | some xs => .ok (.ptr key 0) ((key, some (.row true k xs)) :: u)
        | none => .fail "box: an array's cells"
      | none => .fail "box: an array's cells"
    | none => .fail "box: an array without a kind"
  | some i => bif Nat.beq (lenN x.cells) i.size then .ok (.ptr key 0) [(key, some (.cells x.cells))] else .fail "box: size"
  | none => .fail "box: type"
  else .fail "box: no cells"
noncomputable def evLoad (T : TT) (t : TypeId) (a : SV) (H : VH) (key : Nat) : R :=
  match lkN T t with
  | none => .fail "load: type"
  | some ti =>
    match a with
    | .ptr b j => match H b with
      | some (.cells cs) => let l := (cs.drop j).take ti.size; bif Nat.beq (lenN l) ti.size then one l (isAggT ti) [] else .fail "load: size"
      | some (.row _ k xs) => match j, ti.d with
        | 0, .arr n _ => match fromCS (key + 1) (xs.flatMap (enc k)) with
          | (l, u) => bif Nat.beq (lenN xs) n && Nat.beq (lenN l) ti.size && Nat.blt (lenN l + 1) 64 then .ok (.agg l) u else .fail "load: an array's length"
        | _, _ => .fail "load: a row through a plain pointer"
      | none => .fail "load: no such block"
    | .elt b i j => match H b with
      | some (.row _ k xs) =>
        let l := ((enc k (xs.getD i.toNat (zK k))).drop j).take ti.size
        bif Nat.beq (lenN l) ti.size then (match fromCS (key + 1) l with
          | (l, u) => guarded (0 ≤ i ∧ i < xs.length) (one l (isAggT ti) u)) else .fail "load: an element's size"
      | _ => .fail "load: no row"
    | _ => .fail "load: no pointer"
def evStore (T : TT) (t : TypeId) (a x : SV) (H : VH) : R :=
  match lkN T t with
  | none => .fail "store: type"
  | some ti =>
    bif Nat.beq (lenN x.cells) ti.size && x.cells.all SV.one then
    match a with
    | .ptr b j => match H b with
      | some (.cells cs) => bif Nat.ble (j + ti.size) (lenN cs) then .ok .undef [(b, some (.cells (splice cs j x.cells)))] else .fail "store: size"
      | some (.row true k xs) => match j, ti.d with
        | 0, .arr n _ => match toCS H x.cells with
          | some (cs, u) => match decAll k (lenN cs) cs with
            | some ys => bif Nat.beq (lenN xs) n && Nat.beq (lenN ys) n && Nat.blt 0 n && !memN b (keysOf u) then .ok .undef ((b, some (.row true k ys)) :: u) else .fail "store: an array's length"
            | none => .fail "store: an array's cells"
          | none => .fail "store: an array's cells"
        | _, _ => .fail "store: a row through a plain pointer"
      | _ => .fail "store: no such block, or none to write"
    | .elt b i j => match H b with
      | some (.row true k xs) => match toCS H x.cells with
        | some (cs, u) => match dec k (splice (enc k (xs.getD i.toNat (zK k))) j cs) with
          | some y => bif memN b (keysOf u) || !Nat.ble (j + ti.size) (sz k) then .fail "store: of itself" else .vc (0 ≤ i ∧ i < xs.length) .undef ((b, some (.row true k (xs.set i.toNat y))) :: u)
          | none => .fail "store: an element's cells"
        | none => .fail "store: cells"
      | _ => .fail "store: no row to write"
    | _ => .fail "store: no pointer"
    else .fail "store: the value's size"

universe u
/-! What is kept is written out (each of these is 'K x'). -/
def fN {β : Sort u} (n : Nat) (K : Nat → β) : β := match n with
  | 0 => K 0
  | m + 1 => K (m + 1)
def fV {β : Sort u} (x : Value) (K : Value → β) : β := match x with
  | .int k n => K (.int k n)
  | .bool b => K (.bool b)
  | .string s => K (.string s)
  | .pointer a => K (.pointer a)
  | x => K x
mutual
def fS {β : Sort u} : SV → (SV → β) → β
  | .undef, K => K .undef
  | .val x, K => fV x fun x => K (.val x)
  | .ptr b j, K => fN b fun b => fN j fun j => K (.ptr b j)
  | .elt b i j, K => fN b fun b => fN j fun j => K (.elt b i j)
  | .slF b, K => fN b fun b => K (.slF b)
  | .slP b i n, K => fN b fun b => K (.slP b i n)
  | .agg cs, K => fL cs fun cs => K (.agg cs)
  | .tup cs, K => fL cs fun cs => K (.tup cs)
  | .fn f a c, K => fL a fun a => fL c fun c => K (.fn f a c)
def fL {β : Sort u} : List SV → (List SV → β) → β
  | [], K => K []
  | x :: l, K => fS x fun x => fL l fun l => K (x :: l)
end

def partsIn (T : TT) (place : Nat → Option (Nat × Nat)) : List (Nat × SV) → List SV → Option (List SV)
  | [], cs => some cs
  | (i, x) :: l, cs => match place i with
    | some (o, s) => bif Nat.beq (lenN x.cells) s && Nat.ble (o + s) (lenN cs) && x.cells.all SV.one then fL (splice cs o x.cells) fun cs => partsIn T place l cs else none
    | none => none
def placeOf (T : TT) (fs : List (Nat × TypeId)) (i : Nat) : Option (Nat × Nat) :=
  match fs[i]? with
  | some (o, t) => match lkN T t with | some ti => some (o, ti.size) | none => none
  | none => none
def evBuild (T : TT) (t : TypeId) (ps : List (Nat × SV)) : R :=
  match lkN T t with
  | some ⟨.strct fs, _, _, z, _⟩ => match partsIn T (placeOf T fs) ps (z.map .val) with
    | some cs => .ok (.agg cs) []
    | none => .fail "build: parts"
  | some ⟨.arr _ e, _, _, z, _⟩ => match lkN T e with
    | some ti => match partsIn T (fun i => some (i * ti.size, ti.size)) ps (z.map .val) with
      | some cs => .ok (.agg cs) []
      | none => .fail "build: parts"
    | none => .fail "build: type"
  | _ => .fail "build: type"
def evBuildSlice (T : TT) (t : TypeId) (n : Nat) (ps : List (Nat × SV)) (H : VH) (key : Nat) : R :=
  match lkN T t with
  | some ⟨.slice e, _, _, _, _⟩ => match lkN T e with
    | some ti => match ti.rk with
      | some k =>
        bif Nat.ble (n * ti.size) 16777216 then match partsIn T (fun i => some (i * ti.size, ti.size)) ps ((List.replicate n (ti.zero.map .val)).flatten) with
        | some cs => match toCS H cs with
          | some (cs, u) => match decAll k (lenN cs) cs with
            | some xs => bif Nat.beq (lenN xs) n then .ok (.slF key) ((key, some (.row true k xs)) :: u) else .fail "buildSlice: length"
            | none => .fail "buildSlice: cells"
          | none => .fail "buildSlice: cells"
        | none => .fail "buildSlice: parts"
        else .fail "buildSlice: too long"
      | none => .fail "buildSlice: a type without a kind"
    | none => .fail "buildSlice: type"
  | _ => .fail "buildSlice: type"

def iop (op : BinOp) (k : IntKind) (a b : Int) : R :=
  match op with
  | .add => .ok (.val (.int k (k.wrap (a + b)))) []
  | .sub => .ok (.val (.int k (k.wrap (a - b)))) []
  | .mul => .ok (.val (.int k (k.wrap (a * b)))) []
  | .quo => .vc (b ≠ 0) (.val (.int k (k.wrap (a.tdiv b)))) []
  | .rem => .vc (b ≠ 0) (.val (.int k (a.tmod b))) []
  | .and => .ok (.val (.int k (k.wrap (BitVec.ofInt k.bits a &&& BitVec.ofInt k.bits b).toNat))) []
  | .or => .ok (.val (.int k (k.wrap (BitVec.ofInt k.bits a ||| BitVec.ofInt k.bits b).toNat))) []
  | .xor => .ok (.val (.int k (k.wrap (BitVec.ofInt k.bits a ^^^ BitVec.ofInt k.bits b).toNat))) []
  | .andNot => .ok (.val (.int k (k.wrap (BitVec.ofInt k.bits a &&& ~~~ BitVec.ofInt k.bits b).toNat))) []
  | .shl => .vc (0 ≤ b) (.val (.int k (k.wrap (a * 2 ^ (min b.toNat k.bits))))) []
  | .shr => .vc (0 ≤ b) (.val (.int k (a.fdiv (2 ^ (min b.toNat k.bits))))) []
  | .eql => .ok (.val (.bool (a == b))) []
  | .neq => .ok (.val (.bool (a != b))) []
  | .lss => .ok (.val (.bool (decide (a < b)))) []
  | .leq => .ok (.val (.bool (decide (a ≤ b)))) []
  | .gtr => .ok (.val (.bool (decide (a > b)))) []
  | .geq => .ok (.val (.bool (decide (a ≥ b)))) []
def sop (op : BinOp) (a b : ByteArray) : R :=
  match op with
  | .add => .vc (a.size + b.size ≤ 9223372036854775807) (.val (.string (a ++ b))) []
  | .eql => .ok (.val (.bool (a.toList == b.toList))) []
  | .neq => .ok (.val (.bool (!(a.toList == b.toList)))) []
  | _ => .fail "an order of strings"
/-- '==' of two cells of a plain type. -/
def eqC (d : TD) : SV → SV → Option Bool
  | .val (.int k a), .val (.int k' b) => match d with
    | .int _ => if k = k' then some (a == b) else none
    | _ => none
  | .val (.bool a), .val (.bool b) => match d with
    | .bool => some (a == b)
    | _ => none
  | .val (.string a), .val (.string b) => match d with
    | .str => some (a.toList == b.toList)
    | _ => none
  | _, _ => none
/-- '==' of structs whose fields are plain, one cell each, one behind the other. -/
def eqF (T : TT) : Nat → List (Nat × TypeId) → List SV → List SV → Option Bool
  | _, [], [], [] => some true
  | j, (o, t) :: fs, x :: l, y :: m => bif Nat.beq o j then match lkN T t with
    | some ti => match eqC ti.d x y, eqF T (j + 1) fs l m with
      | some a, some b => some (a && b)
      | _, _ => none
    | none => none
    else none
  | _, _, _, _ => none
/-- Is a pointer nil? -/
def nilP : SV → Option Bool
  | .ptr _ _ | .elt _ _ _ => some false
  | .val (.pointer none) => some true
  | _ => none
def eqR (op : BinOp) (b : Bool) : R :=
  match op with
  | .eql => .ok (.val (.bool b)) []
  | .neq => .ok (.val (.bool (!b))) []
  | _ => .fail "binOp: pointers"
def evBin (T : TT) (op : BinOp) (t : TypeId) (x y : SV) : R :=
  match x, y with
  | .val (.int k a), .val (.int k' b) => match op with
    | .shl | .shr => iop op k a b
    | _ => if k = k' then iop op k a b else .fail "binOp: kinds"
  | .val (.string a), .val (.string b) => sop op a b
  | .val (.bool a), .val (.bool b) => match lkN T t, op with
    | some ⟨.bool, _, _, _, _⟩, .eql => .ok (.val (.bool (a == b))) []
    | some ⟨.bool, _, _, _, _⟩, .neq => .ok (.val (.bool (!(a == b)))) []
    | _, _ => .fail "binOp: bools"
  | .agg a, .agg b => match lkN T t with
    | some ⟨.strct fs, _, _, _, _⟩ => match op, eqF T 0 fs a b with
      | .eql, some r => .ok (.val (.bool r)) []
      | .neq, some r => .ok (.val (.bool (!r))) []
      | _, _ => .fail "binOp: structs"
    | _ => .fail "binOp: structs"
  | x, y => match lkN T t with
    | some ⟨.ptr, _, _, _, _⟩ => match nilP x, nilP y with
      | some true, some b => eqR op b
      | some false, some true => eqR op false
      | _, _ => .fail "binOp: pointers"
    | _ => .fail "binOp: operands"
def evUn (op : UnOp) (x : SV) : R :=
  match op, x with
  | .neg, .val (.int k n) => .ok (.val (.int k (k.wrap (0 - n)))) []
  | .not, .val (.bool b) => .ok (.val (.bool (!b))) []
  | _, _ => .fail "unOp"
def bytesStr (xs : List Int) : ByteArray := ⟨(xs.map fun n => UInt8.ofNat n.toNat).toArray⟩
/-- What a slice shows: its kind and its elements. -/
def sliceOf (H : VH) : SV → Option ((k : RK) × List (El k))
  | .slF b => match H b with | some (.row _ k xs) => some ⟨k, xs⟩ | _ => none
  | .slP b i n => match H b with | some (.row _ k xs) => some ⟨k, (xs.drop i).take n⟩ | _ => none
  | _ => none
def evConv (T : TT) (src dst : TypeId) (x : SV) (H : VH) (_key : Nat) : R :=
  match lkN T src, lkN T dst, x with
  | some _, some ⟨.int k, _, _, _, _⟩, .val (.int _ n) => .ok (.val (.int k (k.wrap n))) []
  | some _, some ⟨.str, _, _, _, _⟩, .val (.string s) => .ok (.val (.string s)) []
  | some ⟨.slice e, _, _, _, _⟩, some ⟨.str, _, _, _, _⟩, x => match lkN T e with
    | some ⟨.int .u8, _, _, _, _⟩ => match x with
      | .val (.slice none 0 0) => .ok (.val (.string .empty)) []
      | x => match sliceOf H x with
        | some ⟨.u8, xs⟩ => .ok (.val (.string (bytesStr xs))) []
        | _ => .fail "convert: no bytes"
    | _ => .fail "convert: no bytes"
  | _, _, _ => .fail "convert"
def evFieldAddr (T : TT) (s : TypeId) (x : SV) (f : Nat) : R :=
  match lkN T s with
  | some ⟨.strct fs, _, _, _, _⟩ => match fs[f]?, x with
    | some (o, _), .ptr b j => .ok (.ptr b (j + o)) []
    | some (o, _), .elt b i j => .ok (.elt b i (j + o)) []
    | _, _ => .fail "fieldAddr"
  | _ => .fail "fieldAddr: type"
def evField (T : TT) (s : TypeId) (x : SV) (f : Nat) : R :=
  match lkN T s, x with
  | some ⟨.strct fs, _, _, _, _⟩, .agg cs => match fs[f]? with
    | some (o, t) => match lkN T t with
      | some ti => let l := (cs.drop o).take ti.size; bif Nat.beq (lenN l) ti.size then one l (isAggT ti) [] else .fail "field: size"
      | none => .fail "field: type"
    | none => .fail "field"
  | _, _ => .fail "field: type"
/-- Are the elements of a type those of a row's kind? -/
def kindIs (T : TT) (e : TypeId) (k : RK) : Bool := match kindE T e with
  | some k' => decide (k' = k)
  | none => false
def evIndexAddr (T : TT) (t : TypeId) (x ix : SV) (H : VH) : R :=
  match lkN T t, x, ix with
  | some ⟨.arr n e, _, _, _, _⟩, .ptr b 0, .val (.int _ i) => match H b with
    | some (.row _ k _) => bif kindIs T e k then .vc (0 ≤ i ∧ i < n) (.elt b i 0) [] else .fail "indexAddr: kinds"
    | _ => .fail "indexAddr: an array that is no row"
  | some ⟨.slice e, _, _, _, _⟩, .slF b, .val (.int _ i) => match H b with
    | some (.row _ k xs) => bif kindIs T e k then .vc (0 ≤ i ∧ i < xs.length) (.elt b i 0) [] else .fail "indexAddr: kinds"
    | _ => .fail "indexAddr: no row"
  | some ⟨.slice e, _, _, _, _⟩, .slP b j n, .val (.int _ i) => match H b with
    | some (.row _ k _) => bif kindIs T e k then .vc (0 ≤ i ∧ i < n) (.elt b (j + i) 0) [] else .fail "indexAddr: kinds"
    | _ => .fail "indexAddr: no row"
  | _, _, _ => .fail "indexAddr"
def bt (s : ByteArray) (i : Int) : Int := if h : i.toNat < s.size then ((s[i.toNat]'h).toNat : Int) else 0
def evIndex (T : TT) (t : TypeId) (x ix : SV) : R :=
  match lkN T t, x, ix with
  | some ⟨.str, _, _, _, _⟩, .val (.string s), .val (.int _ i) => .vc (0 ≤ i ∧ i < s.size) (.val (.int .u8 (bt s i))) []
  | _, _, _ => .fail "index"
def bounds (lo hi : Option SV) (n : Nat) : Option (Prop × Nat × Nat) :=
  match lo, hi with
  | some (.val (.int _ l)), none => some (0 ≤ l ∧ l ≤ n, l.toNat, n)
  | none, some (.val (.int _ h)) => some (0 ≤ h ∧ h ≤ n, 0, h.toNat)
  | some (.val (.int _ l)), some (.val (.int _ h)) => some (0 ≤ l ∧ l ≤ h ∧ h ≤ n, l.toNat, h.toNat)
  | _, _ => none
def evSlice (T : TT) (t : TypeId) (x : SV) (lo hi mx : Option SV) (H : VH) : R :=
  match mx with
  | some _ => .fail "slice: max"
  | none =>
    match lkN T t with
    | some ⟨.str, _, _, _, _⟩ => match x with
      | .val (.string s) => match bounds lo hi s.size with
        | some (c, l, h) => .vc c (.val (.string (s.extract l h))) []
        | none => .fail "slice: bounds"
      | _ => .fail "slice"
    | some ⟨.slice e, _, _, _, _⟩ => match x with
      | .slF b => match H b with
        | some (.row _ k xs) => bif kindIs T e k then match bounds lo hi xs.length with
          | some (c, l, h) => .vc c (.slP b l (h - l)) []
          | none => .fail "slice: bounds"
          else .fail "slice: kinds"
        | _ => .fail "slice: no row"
      | .slP b i n => match H b with
        | some (.row _ k _) => bif kindIs T e k then match bounds lo hi n with
          | some (c, l, h) => .vc c (.slP b (i + l) (h - l)) []
          | none => .fail "slice: bounds"
          else .fail "slice: kinds"
        | _ => .fail "slice: no row"
      | _ => .fail "slice"
    | _ => .fail "slice: type"
def evMakeSlice (T : TT) (t : TypeId) (l c : SV) (key : Nat) : R :=
  match kindS T t, l, c with
  | some k, .val (.int .i64 n), .val (.int .i64 m) => bif Nat.beq (bytesS T t) 0 then .fail "makeSlice: no bytes" else .vc (0 ≤ n ∧ n ≤ m ∧ m * bytesS T t ≤ 140737488355328) (.slF key) [(key, some (.row true k (List.replicate n.toNat (zK k))))]
  | _, _, _ => .fail "makeSlice"
def evLen (T : TT) (t : TypeId) (x : SV) (H : VH) : R :=
  match lkN T t with
  | some ⟨.str, _, _, _, _⟩ => match x with
    | .val (.string s) => .ok (.val (.int .i64 s.size)) []
    | _ => .fail "len"
  | some ⟨.arr n _, _, _, _, _⟩ => .ok (.val (.int .i64 n)) []
  | some ⟨.slice _, _, _, _, _⟩ => match x with
    | .val (.slice none 0 0) => .ok (.val (.int .i64 0)) []
    | .slF b => match H b with
      | some (.row _ _ xs) => .ok (.val (.int .i64 xs.length)) []
      | _ => .fail "len: no row"
    | .slP _ _ n => .ok (.val (.int .i64 n)) []
    | _ => .fail "len"
  | _ => .fail "len: type"
def appFin (T : TT) (t : TypeId) (key : Nat) (k : RK) (xs ys : List (El k)) (u : List (Nat × Option VB)) : R :=
  bif Nat.beq (bytesS T t) 0 then .fail "append: no bytes" else .vc ((xs.length + ys.length) * bytesS T t ≤ 140737488355328) (.slF key) ((key, some (.row true k (xs ++ ys))) :: u)
def appTo (T : TT) (t : TypeId) (key : Nat) (H : VH) (k : RK) (s : SV) (ys : List (El k)) : R :=
  match s with
  | .val (.slice none 0 0) => appFin T t key k [] ys []
  | .slF b => match H b with
    | some (.row true k' xs) => match castK k k' xs with
      | some xs => appFin T t key k xs ys [(b, none)]
      | none => .fail "append: kinds"
    | _ => .fail "append: no row to write"
  | _ => .fail "append: to what?"
/-- append: the row that came in is used up. -/
def evAppend (T : TT) (t : TypeId) (s x : SV) (H : VH) (key : Nat) : R :=
  match kindS T t with
  | none => .fail "append: a type without a kind"
  | some k =>
    match x with
    | .val (.slice none 0 0) => appTo T t key H k s []
    | x => match sliceOf H x with
      | some ⟨k', ys⟩ => match castK k k' ys with
        | some ys => appTo T t key H k s ys
        | none => .fail "append: kinds"
      | none => .fail "append: what?"
def evMinMax (mx : Bool) (l : List SV) : R :=
  match l with
  | [.val (.int k a), .val (.int k' b)] => if k = k' then .ok (.val (.int k (bif mx then (if a < b then b else a) else (if b < a then b else a)))) [] else .fail "min, max"
  | _ => .fail "min, max"

def evCall (T : TT) (Γ : List (Nat × GC)) (g : Nat → SV) (c : Call) (H : VH) (key : Nat) : R :=
  let args := c.args.toList.map (arg g)
  match c.callee with
  | .value f => match arg g f with
    | .fn (.func n) first cap => match lkN Γ n with
      | some gc => let a := first ++ args ++ cap
        gc a H key
      | none => .fail "call: no contract"
    | _ => .fail "call: of what?"
  | .builtin .len => match args, c.argTypes.toList with | [x], [t] => evLen T t x H | _, _ => .fail "len"
  | .builtin .append => match args, c.argTypes.toList with | [s, x], [t, t'] => bif Nat.beq t t' then evAppend T t s x H key else .fail "append: of another type" | _, _ => .fail "append"
  | .builtin .min => evMinMax false args
  | .builtin .max => evMinMax true args
  | _ => .fail "call: builtin, or through an interface"

def evMove (T : TT) (t : TypeId) (key : Nat) : SV → R
  | .val (.slice none 0 0) => match kindS T t with
    | some k => .ok (.slF key) [(key, some (.row true k []))]
    | none => .ok (.val (.slice none 0 0)) []
  | s => .ok s []
def evNil : SV → R
  | .ptr b j => .ok (.ptr b j) []
  | .elt b i j => .ok (.elt b i j) []
  | .fn (.func f) a c => .ok (.fn (.func f) a c) []
  | _ => .fail "nilCheck"
def evExtract (x : SV) (i : Nat) : R :=
  match x with
  | .tup cs => match cs[i]? with
    | some c => .ok c []
    | none => .fail "extract"
  | _ => .fail "extract"
/-- The kinds of the slices among a type's cells. -/
def ckOf (T : TT) : Nat → TypeId → List (Option RK)
  | 0, _ => []
  | n + 1, t => match lkN T t with
    | some ⟨.slice e, _, _, _, _⟩ => [kindE T e]
    | some ⟨.strct fs, _, _, _, _⟩ => fs.flatMap fun p => ckOf T n p.2
    | some ⟨.arr m e, _, _, _, _⟩ => (List.replicate m (ckOf T n e)).flatten
    | some i => List.replicate i.size none
    | none => []
/-- Nil slices as rows of their own. -/
def nilCs : List (Option RK) → List SV → Nat → List SV × List (Nat × Option VB)
  | some k :: ks, .val (.slice none 0 0) :: cs, n => match nilCs ks cs (n + 1) with
    | (l, u) => (.slF n :: l, (n, some (.row true k [])) :: u)
  | _ :: ks, c :: cs, n => match nilCs ks cs (n + 1) with
    | (l, u) => (c :: l, u)
  | [], cs, _ => (cs, [])
  | _, [], _ => ([], [])
def nilR (ks : List (Option RK)) (key : Nat) (r : R) : R := match r with
  | .ok (.agg cs) [] => bif Nat.blt (lenN cs) 62 then (match nilCs ks cs (key + 1) with
    | (l, u) => .ok (.agg l) u) else .ok (.agg cs) []
  | .ok (.ptr b 0) [(b', some (.cells cs))] => bif Nat.blt (lenN cs) 62 && (Nat.beq b key && Nat.beq b' key) then (match nilCs ks cs (key + 1) with
    | (l, u) => .ok (.ptr b 0) ((b', some (.cells l)) :: u)) else .ok (.ptr b 0) [(b', some (.cells cs))]
  | r => r
noncomputable def ev (T : TT) (Γ : List (Nat × GC)) (g : Nat → SV) (o : Oper) (H : VH) (key : Nat) : R :=
  match o.op with
  | .move x | .assign x => evMove T o.type key (arg g x)
  | .alloc t => nilR (ckOf T 6 t) key (evAlloc T t key)
  | .box t x => evBox T t (arg g x) H key
  | .build t ps => nilR (ckOf T 6 t) key (evBuild T t (ps.toList.map fun p => (p.1, arg g p.2)))
  | .buildSlice t n ps => evBuildSlice T t n (ps.toList.map fun p => (p.1, arg g p.2)) H key
  | .load t a => evLoad T t (arg g a) H key
  | .store t a x => evStore T t (arg g a) (arg g x) H
  | .nilCheck x => evNil (arg g x)
  | .binOp op t x y _ => evBin T op t (arg g x) (arg g y)
  | .unOp op _ x => evUn op (arg g x)
  | .convert s d x => evConv T s d (arg g x) H key
  | .makeFunc f a c => .ok (.fn f (a.toList.map (arg g)) (c.toList.map (arg g))) []
  | .makeSlice t l c => evMakeSlice T t (arg g l) (arg g c) key
  | .slice t x lo hi mx => evSlice T t (arg g x) (lo.map (arg g)) (hi.map (arg g)) (mx.map (arg g)) H
  | .fieldAddr s x f => evFieldAddr T s (arg g x) f
  | .field s x f => evField T s (arg g x) f
  | .indexAddr t x i => evIndexAddr T t (arg g x) (arg g i) H
  | .index t x i => evIndex T t (arg g x) (arg g i)
  | .extract x i => evExtract (arg g x) i
  | .call c => evCall T Γ g c H key
  | _ => .fail "an operation that is not served"

def Fail (_why : String) : Prop := False

/-- The blocks that an operation may look at. -/
def reachN : Nat → VH → List Nat → List Nat
  | 0, _, l => l
  | n + 1, H, l => l ++ reachN n H (behind H l)
/-- What an operation looks at in memory: 0 nothing, 1 the block of its address, 2 all that it reaches. -/
def clsOf (o : Op) : Nat := match o with
  | .fieldAddr .. | .field .. | .binOp .. | .unOp .. | .extract .. | .nilCheck .. | .index .. | .makeFunc .. | .makeSlice .. | .build .. | .alloc .. | .move .. | .assign .. => 0
  | .load .. => 1
  | _ => 2
def deepOf (o : Op) : Nat := match clsOf o with
  | 0 => 0
  | 1 => 1
  | _ => match o with
    | .call _ => 6
    | _ => 2
def take1 : List Nat → List Nat
  | [] => []
  | a :: _ => [a]
/-- On which of the blocks that it reaches an operation depends. -/
def needOf (o : Oper) (ids : List Nat) : List Nat := match clsOf o.op with
  | 0 => []
  | 1 => take1 ids
  | _ => ids
def reach (g : Nat → SV) (H : VH) (o : Oper) : List Nat := reachN (deepOf o.op) H (idsL (o.op.operands.toList.map (arg g)))
noncomputable def evS (T : TT) (Γ : List (Nat × GC)) (g : Nat → SV) (H : VH) (o : Oper) (key : Nat) : R := ev T Γ g o (hidden (reach g H o) H) key

/-- How many numbers each operation has for new blocks. -/
def stride : Nat := 64
def inRange (key b : Nat) : Bool := Nat.ble key b && Nat.blt b (key + stride)
def okId (rs : List Nat) (key b : Nat) : Bool := inRange key b || memN b rs
def okIds (rs : List Nat) (key : Nat) (l : List Nat) : Bool := l.all (okId rs key)
def idsU : List (Nat × Option VB) → List Nat
  | [] => []
  | (b, some (.cells cs)) :: l => b :: (idsL cs ++ idsU l)
  | (b, _) :: l => b :: idsU l
/-- The numbers in an answer are those that were handed in, and new ones. -/
def tidy (rs : List Nat) (key : Nat) (s : SV) (u : List (Nat × Option VB)) : Bool := okIds rs key s.ids && okIds rs key (idsU u)

def fT : List (Nat × SV) → (List (Nat × SV) → Prop) → Prop
  | [], K => K []
  | (d, s) :: l, K => fS s fun s => fT l fun l => K ((d, s) :: l)
def fB : Option VB → (Option VB → Prop) → Prop
  | none, K => K none
  | some (.cells cs), K => fL cs fun cs => K (some (.cells cs))
  | some (.row o k xs), K => K (some (.row o k xs))
def fU : List (Nat × Option VB) → List (Nat × Option VB) → (List (Nat × Option VB) → Prop) → Prop
  | [], hp, K => K hp
  | (b, v) :: l, hp, K => fN b fun b => fB v fun v => fU l hp fun l => K ((b, v) :: l)
def goOn (S : St) (d : Option Nat) (s : SV) (u : List (Nat × Option VB)) (K : St → Prop) : Prop :=
  match S with
  | ⟨tp, hp, n, kn⟩ => fU u hp fun hp => match d with
    | none => K ⟨tp, hp, n, kn⟩
    | some d => fS s fun s => K ⟨(d, s) :: tp, hp, n, (d, none) :: kn⟩
/-- What is to be shown. -/
structure Vc (c : Prop) : Prop where
  ok : c
def finOk (rs : List Nat) (key : Nat) (o : Oper) (S : St) (K : List Nat → List Nat → St → Prop) (s : SV) (u : List (Nat × Option VB)) : Prop :=
  fS s fun s => fU u [] fun u => bif tidy rs key s u then goOn S o.dst s u (K rs (u.map (·.1))) else Fail "numbers"
def finBr (t : Bool) (a b : Prop) : Prop := (t = true → a) ∧ (t = false → b)
noncomputable def fin (rs : List Nat) (key : Nat) (o : Oper) (S : St) (K : List Nat → List Nat → St → Prop) (r : R) : Prop :=
  R.rec (motive := fun _ => Prop) (fun s u => finOk rs key o S K s u) (fun c s u => Vc c ∧ finOk rs key o S K s u) (fun t _ _ a b => finBr t a b) (fun w => Fail w) r
/-- Part on a Bool in a slot. -/
def part (S : St) (x : Operand) (K : Bool → St → Prop) : Prop :=
  match x with
  | .const (.bool b) => K b S
  | .tmp d => match S.know d with
    | some b => K b S
    | none => match S.get d with
      | .val (.bool t) => match S with
        | ⟨tp, hp, n, kn⟩ => (t = true → K true ⟨tp, hp, n, (d, some true) :: kn⟩) ∧ (t = false → K false ⟨tp, hp, n, (d, some false) :: kn⟩)
      | _ => Fail "a test of no bool"
  | _ => Fail "a test of no slot"
def fNs {β : Sort u} : List Nat → (List Nat → β) → β
  | [], K => K []
  | a :: l, K => fN a fun a => fNs l fun l => K (a :: l)
def fReach : Nat → VH → List Nat → (List Nat → Prop) → Prop
  | 0, _, l, K => K l
  | n + 1, H, l, K => fNs (behind H l) fun m => fReach n H m fun r => K (l ++ r)
/-- The slots and blocks that an operation looks at, in tables of their own. -/
def tmpsOf (g : Nat → SV) : List Operand → List (Nat × SV)
  | [] => []
  | .tmp t :: l => (t, g t) :: tmpsOf g l
  | _ :: l => tmpsOf g l
def blksOf (H : VH) : List Nat → List (Nat × Option VB)
  | [] => []
  | b :: l => (b, H b) :: blksOf H l
/-- One operation. What follows is told which blocks it may look at, and which it changes. -/
noncomputable def exec1 (T : TT) (Γ : List (Nat × GC)) (o : Oper) (key : Nat) (S : St) (K : List Nat → List Nat → St → Prop) : Prop :=
  match o.op with
  | .pick c a b => part S c fun t S => goOn S o.dst (bif t then arg S.get a else arg S.get b) [] (K [] [])
  | _ => fT (tmpsOf S.get o.op.operands.toList) fun tp => fNs (idsL (o.op.operands.toList.map (arg (getT tp)))) fun l => fReach (deepOf o.op) S.look l fun rs => fNs rs fun rs => fU (blksOf S.look rs) [] fun hp => fin rs key o S K (ev T Γ (getT tp) o (lookH hp) key)
def dstOf (ops : List Oper) (j : Nat) : Option Nat := match ops[j]? with
  | some o => o.dst
  | none => none
noncomputable def step (T : TT) (Γ : List (Nat × GC)) (ops : List Oper) (o : Oper) (key : Nat) (S : St) (K : List Nat → List Nat → St → Prop) : Prop :=
  match o.guard with
  | none => exec1 T Γ o key S K
  | some (j, want) => match dstOf ops j with
    | some d => match S.get d with
      | .val (.tuple _) => goOn S o.dst (.val (.tuple #[])) [] (K [] [])
      | _ => part S (.tmp d) fun t S => bif t == want then exec1 T Γ o key S K else goOn S o.dst (.val (.tuple #[])) [] (K [] [])
    | none => Fail "guard"
/-- Is a slice held against nil? -/
def nilCmp (T : TT) (S : St) (o : Oper) : Option (Bool × SV) := match o.guard with
  | none => match o.op with
    | .binOp op t x (.const (.slice none 0 0)) _ => match lkN T t with
      | some ⟨.slice _, _, _, _, _⟩ => match op with
        | .eql => some (false, arg S.get x)
        | .neq => some (true, arg S.get x)
        | _ => none
      | _ => none
    | _ => none
  | _ => none
def slLen (S : St) : SV → Option Nat
  | .slF b => match S.look b with
    | some (.row _ _ xs) => some xs.length
    | _ => none
  | .slP _ _ n => some n
  | _ => none
noncomputable def stepS (T : TT) (Γ : List (Nat × GC)) (ops : List Oper) (o : Oper) (key : Nat) (S : St) (K : List Nat → List Nat → St → Prop) : Prop :=
  match nilCmp T S o with
  | some (neg, x) => match x with
    | .val (.slice none 0 0) => goOn S o.dst (.val (.bool (!neg))) [] (K [] [])
    | x => match slLen S x with
      | some n => ∀ t : Bool, (t = true → n = 0) → goOn S o.dst (.val (.bool (bif neg then !t else t))) [] (K [] [])
      | none => Fail "a slice against nil"
  | none => step T Γ ops o key S K
noncomputable def stepB (T : TT) (Γ : List (Nat × GC)) (dr : Bool) (ops : List Oper) (o : Oper) (key : Nat) (S : St) (K : List Nat → List Nat → St → Prop) : Prop :=
  bif dr then step T Γ ops o key S K else stepS T Γ ops o key S K
abbrev Seen := List (List Nat × List Nat)
def runNil (key : Nat) (S : St) (acc : Seen) (K : Seen → St → Prop) : Prop := match S with
  | ⟨tp, hp, _, kn⟩ => K acc ⟨tp, hp, key, kn⟩
/-- (By the recursor itself: the kernel and the elaborator then come to the same terms.) -/
noncomputable def runOps (T : TT) (Γ : List (Nat × GC)) (dr : Bool) (ops : List Oper) (l : List Oper) : Nat → St → Seen → (Seen → St → Prop) → Prop :=
  List.rec (motive := fun _ => Nat → St → Seen → (Seen → St → Prop) → Prop) runNil
    (fun o _ next key S acc K => stepB T Γ dr ops o key S fun ids ks S => match key + stride with
      | 0 => Fail "key"
      | n + 1 => bif dr then fNs ids fun ids => fNs ks fun ks => next (n + 1) S ((ids, ks) :: acc) K else next (n + 1) S acc K) l
theorem runOps_nil (T : TT) (Γ : List (Nat × GC)) (dr : Bool) (ops : List Oper) (key : Nat) (S : St) (acc : Seen) (K : Seen → St → Prop) : runOps T Γ dr ops [] key S acc K = runNil key S acc K := rfl
theorem runOps_cons (T : TT) (Γ : List (Nat × GC)) (dr : Bool) (ops : List Oper) (o : Oper) (l : List Oper) (key : Nat) (S : St) (acc : Seen) (K : Seen → St → Prop) : runOps T Γ dr ops (o :: l) key S acc K =
    stepB T Γ dr ops o key S fun ids ks S => match key + stride with
      | 0 => Fail "key"
      | n + 1 => bif dr then fNs ids fun ids => fNs ks fun ks => runOps T Γ dr ops l (n + 1) S ((ids, ks) :: acc) K else runOps T Γ dr ops l (n + 1) S acc K := rfl

/-! A region whose order is drawn: two operations of which neither comes after the other by the edges leave each other alone. -/
structure It where
  ix : Nat
  mask : Nat
  dst : List Nat
  ins : List Nat
  ids : List Nat
  keys : List Nat
def meets : List Nat → List Nat → Bool
  | [], _ => false
  | a :: l, r => bif memN a r then true else meets l r
def insOf (ops : List Oper) (o : Oper) : List Nat :=
  (match o.guard with
  | some (j, _) => match dstOf ops j with
    | some d => [d]
    | none => []
  | none => []) ++ o.op.operands.toList.filterMap fun | .tmp t => some t | _ => none
def maskAt : List It → Nat → Nat
  | [], _ => 0
  | a :: l, i => bif Nat.beq a.ix i then a.mask else maskAt l i
def maskOf (tbl : List It) : List Edge → Nat
  | [] => 0
  | e :: l => bif Region.binds .any e then Nat.lor (Nat.lor (maskAt tbl e.on) (Nat.shiftLeft 1 e.on)) (maskOf tbl l) else maskOf tbl l
def bitAt (m j : Nat) : Bool := Nat.beq (Nat.mod (Nat.shiftRight m j) 2) 1
def freeIt (a b : It) : Bool :=
  !(meets a.dst b.ins || meets b.dst a.ins || meets a.dst b.dst || meets a.keys b.ids || meets b.keys a.ids || meets a.keys b.keys)
def freeOf (a : It) : List It → Bool
  | [] => true
  | b :: l => (bif bitAt a.mask b.ix then true else freeIt a b) && freeOf a l
def withN (n : Nat) (K : Nat → Bool) : Bool := match n with
  | 0 => K 0
  | m + 1 => K (m + 1)
/-- May the operations come in each order that the edges leave? tbl: those ahead. -/
def draws (ops : List Oper) : List Oper → Nat → List (List Nat × List Nat) → List It → Bool
  | [], _, _, _ => true
  | _ :: _, _, [], _ => false
  | o :: l, i, (ids, ks) :: r, tbl =>
    withN (maskOf tbl o.after.toList) fun mask =>
      let a : It := ⟨i, mask, o.dst.toList, insOf ops o, needOf o ids, ks⟩
      o.after.toList.all (fun e => !Region.binds .any e || Nat.blt e.on i) && (freeOf a tbl && draws ops l (i + 1) r (a :: tbl))

def firstReg : Code → Option Nat
  | .region id _ _ => some id
  | .seq a b => match firstReg a with | some i => some i | none => firstReg b
  | .cond _ a b => match firstReg a with | some i => some i | none => firstReg b
  | .block _ c | .loop c | .scope c => firstReg c
  | _ => none
def dsts : Code → List Nat
  | .region _ ops _ => ops.toList.filterMap (·.dst)
  | .seq a b | .cond _ a b => dsts a ++ dsts b
  | .block _ c | .loop c | .scope c => dsts c
  | _ => []

/-! What a loop carries: kinds of slots and blocks; their data are read off the state. -/
/-- A cell of a block. -/
inductive Sh where
  | i (k : IntKind)
  | b
  | s
  | r (own : Bool) (k : RK)   -- a slice over a row of its own
  | st (k : RK)               -- a struct of plain cells
  | fix (v : SV)              -- as it is
@[reducible] def Dsh : Sh → Type
  | .i _ => Int
  | .b => Bool
  | .s => ByteArray
  | .r _ k => List (El k)
  | .st k => El k
  | .fix _ => Unit
@[reducible] def Dshs : List Sh → Type
  | [] => Unit
  | x :: l => Dsh x × Dshs l
inductive Car where
  | i (d : Nat) (k : IntKind)
  | b (d : Nat)
  | s (d : Nat)
  | r (d : Nat) (own : Bool) (k : RK)     -- a slice over a row of its own
  | p (d : Nat) (sh : List Sh)            -- a pointer to a block of its own
  | pr (d : Nat) (k : RK)                 -- a pointer to an array of its own
  | blk (b : Nat) (sh : List Sh)          -- an older block
  | row (b : Nat) (own : Bool) (k : RK)   -- an older row
  | fx (d : Nat) (v : SV)                 -- a slot that holds the same again
@[reducible] def D : Car → Type
  | .i _ _ => Int
  | .b _ => Bool
  | .s _ => ByteArray
  | .r _ _ k => List (El k)
  | .p _ sh => Dshs sh
  | .pr _ k => List (El k)
  | .blk _ sh => Dshs sh
  | .row _ _ k => List (El k)
  | .fx _ _ => Unit
@[reducible] def Ds : List Car → Type
  | [] => Unit
  | c :: l => D c × Ds l

def plainSV : List CS → List SV
  | [] => []
  | .v x :: l => .val x :: plainSV l
  | .s _ _ :: l => .undef :: plainSV l
def shT1 (n : Nat) (sh : Sh) (x : Dsh sh) : List SV := match sh, x with
  | .i k, x => [.val (.int k x)]
  | .b, x => [.val (.bool x)]
  | .s, x => [.val (.string x)]
  | .r _ _, _ => [.slF n]
  | .st k, x => plainSV (enc k x)
  | .fix v, _ => [v]
def shB1 (n : Nat) (sh : Sh) (x : Dsh sh) : List (Nat × Option VB) := match sh, x with
  | .r own k, xs => [(n, some (.row own k xs))]
  | _, _ => []
def shT : (l : List Sh) → Nat → Dshs l → List SV
  | [], _, _ => []
  | sh :: l, n, (x, y) => shT1 n sh x ++ shT l (n + 1) y
def shB : (l : List Sh) → Nat → Dshs l → List (Nat × Option VB)
  | [], _, _ => []
  | sh :: l, n, (x, y) => shB1 n sh x ++ shB l (n + 1) y
def carT (n : Nat) (c : Car) (x : D c) : List (Nat × SV) := match c, x with
  | .i d k, x => [(d, .val (.int k x))]
  | .b d, x => [(d, .val (.bool x))]
  | .s d, x => [(d, .val (.string x))]
  | .r d _ _, _ => [(d, .slF n)]
  | .p d _, _ => [(d, .ptr n 0)]
  | .pr d _, _ => [(d, .ptr n 0)]
  | .blk _ _, _ => []
  | .row _ _ _, _ => []
  | .fx d v, _ => [(d, v)]
def carB (n : Nat) (c : Car) (x : D c) : List (Nat × Option VB) := match c, x with
  | .r _ own k, xs => [(n, some (.row own k xs))]
  | .p _ sh, x => (n, some (.cells (shT sh (n + 1) x))) :: shB sh (n + 1) x
  | .pr _ k, xs => [(n, some (.row true k xs))]
  | .blk b sh, x => (b, some (.cells (shT sh (n + 1) x))) :: shB sh (n + 1) x
  | .row b own k, xs => [(b, some (.row own k xs))]
  | _, _ => []
def carsT : (l : List Car) → Nat → Ds l → List (Nat × SV)
  | [], _, _ => []
  | c :: l, n, (x, y) => carT n c x ++ carsT l (n + 32) y
def carsB : (l : List Car) → Nat → Ds l → List (Nat × Option VB)
  | [], _, _ => []
  | c :: l, n, (x, y) => carB n c x ++ carsB l (n + 32) y

abbrev Ren := List (Nat × Nat)
def rdRow (S : St) (c : Nat) (own : Bool) (k : RK) (K : List (El k) → Prop) : Prop := match S.look c with
  | some (.row own' k' xs) => match castK k k' xs with
    | some ys => own' = own ∧ K ys
    | none => Fail "a loop's row of another kind"
  | _ => Fail "a loop's row"
/-- n plain cells, and the rest. -/
def plainCells : Nat → List SV → (List CS → List SV → Prop) → Prop
  | 0, l, K => K [] l
  | n + 1, .val x :: l, K => plainCells n l fun a r => K (.v x :: a) r
  | _, _, _ => Fail "a loop's struct: no plain cells"
def flatK (k : RK) : Bool := (enc k (zK k)).all fun | .v _ => true | .s _ _ => false
def rdSh1 (S : St) (n : Nat) (sh : Sh) (cs : List SV) (K : Dsh sh → Ren → List SV → Prop) : Prop := match sh, cs, K with
  | .i k, .val (.int k' x) :: l, K => if k' = k then K x [] l else Fail "a loop's number of another kind"
  | .b, .val (.bool x) :: l, K => K x [] l
  | .s, .val (.string x) :: l, K => K x [] l
  | .r own k, .slF c :: l, K => rdRow S c own k fun xs => K xs [(n, c)] l
  | .st k, l, K => bif flatK k then plainCells (sz k) l (fun a r => match dec k a with
    | some x => K x [] r
    | none => Fail "a loop's struct of another kind") else Fail "a loop's struct that holds slices"
  | .fix v, v' :: l, K => v' = v ∧ K () [] l
  | _, _, _ => Fail "a loop's cell"
def rdNil (cs : List SV) (K : Unit → Ren → Prop) : Prop := match cs with
  | [] => K () []
  | _ => Fail "a loop's block: more cells"
def rdCons {A B : Type} (one : List SV → (A → Ren → List SV → Prop) → Prop) (rest : List SV → (B → Ren → Prop) → Prop) (cs : List SV) (K : A × B → Ren → Prop) : Prop :=
  one cs fun x t cs => rest cs fun y t' => K (x, y) (t ++ t')
noncomputable def rdSh (S : St) (l : List Sh) : Nat → List SV → (Dshs l → Ren → Prop) → Prop :=
  List.rec (motive := fun l => Nat → List SV → (Dshs l → Ren → Prop) → Prop) (fun _ cs K => rdNil cs K)
    (fun sh l next n cs K => rdCons (rdSh1 S n sh) (next (n + 1)) cs K) l
noncomputable def rdCar (S : St) (n : Nat) (c : Car) (K : D c → Ren → Prop) : Prop := match c, K with
  | .i d k, K => rdSh1 S n (.i k) [S.get d] fun x t _ => K x t
  | .b d, K => rdSh1 S n .b [S.get d] fun x t _ => K x t
  | .s d, K => rdSh1 S n .s [S.get d] fun x t _ => K x t
  | .r d own k, K => rdSh1 S n (.r own k) [S.get d] fun x t _ => K x t
  | .p d sh, K => match S.get d with
    | .ptr c 0 => match S.look c with
      | some (.cells cs) => rdSh S sh (n + 1) cs fun x t => K x ((n, c) :: t)
      | _ => Fail "a loop's pointer: no cells"
    | _ => Fail "a loop's pointer"
  | .pr d k, K => match S.get d with
    | .ptr c 0 => rdRow S c true k fun xs => K xs [(n, c)]
    | _ => Fail "a loop's pointer"
  | .blk b sh, K => match S.look b with
    | some (.cells cs) => rdSh S sh (n + 1) cs K
    | _ => Fail "a loop's block: no cells"
  | .row b own k, K => rdRow S b own k fun xs => K xs []
  | .fx d v, K => S.get d = v ∧ K () []
noncomputable def rdCars (S : St) (l : List Car) : Nat → (Ds l → Ren → Prop) → Prop :=
  List.rec (motive := fun l => Nat → (Ds l → Ren → Prop) → Prop) (fun _ K => K () [])
    (fun c _ next n K => rdCar S n c fun x t => next (n + 32) fun y t' => K (x, y) (t ++ t')) l

def shIds : List Sh → List Nat
  | [] => []
  | .fix v :: l => v.ids ++ shIds l
  | _ :: l => shIds l
def carSlot : Car → List Nat
  | .i d _ | .b d | .s d | .r d _ _ | .p d _ | .pr d _ | .fx d _ => [d]
  | _ => []
def carOld : Car → List Nat
  | .blk b _ | .row b _ _ => [b]
  | _ => []
def carIds : Car → List Nat
  | .p _ sh => shIds sh
  | .blk b sh => b :: shIds sh
  | .row b _ _ => [b]
  | .fx _ v => v.ids
  | _ => []
def carLen : Car → Nat
  | .p _ sh | .blk _ sh => lenN sh
  | _ => 0
def nodupN : List Nat → Bool
  | [] => true
  | a :: l => !memN a l && nodupN l
def undefs : List Nat → List (Nat × SV)
  | [] => []
  | d :: l => (d, .undef) :: undefs l
def nones : List Nat → List (Nat × Option VB)
  | [] => []
  | b :: l => (b, none) :: nones l
def subN : List Nat → List Nat → Bool
  | [], _ => true
  | a :: l, r => memN a r && subN l r
/-- What is carried is set in the loop, each once; its blocks are its own, or older than the loop. -/
def okCars (cs : List Car) (ds : List Nat) (base : Nat) : Bool :=
  nodupN (cs.flatMap carSlot) && (nodupN (cs.flatMap carOld) && ((cs.flatMap carIds).all (fun b => Nat.blt b base) && (subN (cs.flatMap carSlot) ds && (cs.all (fun c => Nat.blt (carLen c) 31) && Nat.blt (lenN cs) 32))))
/-- tk: the older blocks that the loop took over. -/
def okRen (cs : List Car) (base : Nat) (tk : List Nat) (t : Ren) : Bool :=
  nodupN (t.map (·.2)) && (!meets (t.map (·.2)) (cs.flatMap carOld) && t.all (fun p => Nat.ble base p.2 || memN p.2 tk))
def okHp (cs : List Car) (base : Nat) (tk : List Nat) (S : St) (old : Nat) : Bool :=
  (keysOf (S.hp.take (lenN S.hp - old))).all (fun b => Nat.ble base b || (memN b (cs.flatMap carOld) || memN b tk))
/-- The state at a loop's head. S0: as it was at the entry; n: its next number. -/
def headN (cs : List Car) (n n' : Nat) (S0 : St) (ds : List Nat) (tk : List Nat) (x : Ds cs) : St :=
  { tp := carsT cs n x ++ (undefs ds ++ S0.tp)
    hp := carsB cs n x ++ (nones tk ++ S0.hp)
    next := n'
    kn := [] }
def head (cs : List Car) (S0 : St) (ds : List Nat) (tk : List Nat) (x : Ds cs) : St := headN cs S0.next (S0.next + 1024) S0 ds tk x
structure AnnI where
  cars : List Car
  inv : Ds cars → Prop
  mu : Ds cars → Nat
inductive Ann where
  | inv (ids : List Nat) (vs : List SV) (L : List Nat → List SV → AnnI)
  | unroll (n : Nat)

def fSt (S : St) (K : St → Prop) : Prop := match S with
  | ⟨tp, hp, n, kn⟩ => fT tp fun tp => fU hp [] fun hp => fN n fun n => K ⟨tp, hp, n, kn⟩

/-- By the number of a loop's first region: what is told of it, in terms of the state at its entry. -/
abbrev Anns := List (Nat × (St → Ann))
def annAt : Anns → Nat → Option (St → Ann)
  | [], _ => none
  | (q, L) :: l, r => bif Nat.beq q r then some L else annAt l r

def allSh1 (sh : Sh) (K : Dsh sh → Prop) : Prop := match sh, K with
  | .fix _, K => K ()
  | .i _, K => ∀ n : Int, K n
  | .b, K => ∀ t : Bool, K t
  | .s, K => ∀ t : ByteArray, K t
  | .r _ k, K => allL k K
  | .st k, K => allE k K
noncomputable def allSh (l : List Sh) : (Dshs l → Prop) → Prop :=
  List.rec (motive := fun l => (Dshs l → Prop) → Prop) (fun K => K ()) (fun sh _ next K => allSh1 sh fun a => next fun y => K (a, y)) l
noncomputable def allCar (c : Car) (K : D c → Prop) : Prop := match c, K with
  | .i _ _, K => ∀ n : Int, K n
  | .b _, K => ∀ t : Bool, K t
  | .s _, K => ∀ t : ByteArray, K t
  | .r _ _ k, K => allL k K
  | .p _ sh, K => allSh sh K
  | .pr _ k, K => allL k K
  | .blk _ sh, K => allSh sh K
  | .row _ _ k, K => allL k K
  | .fx _ _, K => K ()
/-- For all data that a loop carries. -/
noncomputable def allDs (l : List Car) : (Ds l → Prop) → Prop :=
  List.rec (motive := fun l => (Ds l → Prop) → Prop) (fun K => K ()) (fun c _ next K => allCar c fun a => next fun y => K (a, y)) l
/-- A loop's entry, and its return to the head. -/
structure Ent (p : Prop) : Prop where
  inv : p
structure Nxt (p q : Prop) : Prop where
  inv : p
  mu : q
noncomputable def round (L : AnnI) (S : St) (ds : List Nat) (body : St → (Exit → St → Prop) → Prop) (K : Exit → St → Prop) : Prop :=
  fN S.next fun n => fN (n + 1024) fun n' =>
  rdCars S L.cars n fun x0 t0 => (okCars L.cars ds n && okRen L.cars n (t0.map (·.2)) t0) = true ∧ Ent (L.inv x0) ∧
    allDs L.cars fun x => L.inv x → fSt (headN L.cars n n' S ds (t0.map (·.2)) x) fun S1 => body S1 fun e S' => match e with
      | .normal => rdCars S' L.cars n fun y t => (okRen L.cars n (t0.map (·.2)) t && okHp L.cars n (t0.map (·.2)) S' (lenN S1.hp)) = true ∧ Nxt (L.inv y) (L.mu y < L.mu x)
      | e => K e S'
noncomputable def rounds (n : Nat) (body : St → (Exit → St → Prop) → Prop) (K : Exit → St → Prop) : St → Prop :=
  Nat.rec (motive := fun _ => St → Prop) (fun _ => Fail "a loop of more rounds") (fun _ next S => body S fun e S' => match e with
    | .normal => next S'
    | e => K e S') n
def afterSeq (next : St → (Exit → St → Prop) → Prop) (K : Exit → St → Prop) (e : Exit) (S : St) : Prop := match e with
  | .normal => next S K
  | e => K e S
def afterBlock (id : Nat) (K : Exit → St → Prop) (e : Exit) (S : St) : Prop := match e with
  | .exit i => bif Nat.beq i id then K .normal S else K (.exit i) S
  | e => K e S
noncomputable def atLoop (A : Anns) (c : Code) (body : St → (Exit → St → Prop) → Prop) (S : St) (K : Exit → St → Prop) : Prop := match firstReg c with
  | none => Fail "a loop without a region"
  | some r => match annAt A r with
    | none => Fail "a loop of which nothing is told"
    | some L => match L S with
      | .inv ids vs L => fNs ids fun ids => fL vs fun vs => fNs (dsts c) fun ds => round (L ids vs) S ds body K
      | .unroll n => rounds n body K S
noncomputable def atRegion (T : TT) (Γ : List (Nat × GC)) (ops : Array Oper) (draw : Bool) (S : St) (K : Exit → St → Prop) : Prop :=
  fN S.next fun n => runOps T Γ draw ops.toList ops.toList n S [] fun acc S => bif draw then draws ops.toList ops.toList 0 acc.reverse [] = true ∧ K .normal S else K .normal S
def noCode (_ : St) (_ : Exit → St → Prop) : Prop := Fail "code that is not served"
noncomputable def run (T : TT) (Γ : List (Nat × GC)) (A : Anns) (c : Code) : St → (Exit → St → Prop) → Prop :=
  Code.rec (motive := fun _ => St → (Exit → St → Prop) → Prop)
    (fun S K => K .normal S)
    (fun _ ops draw S K => atRegion T Γ ops draw S K)
    (fun _ _ ra rb S K => ra S (afterSeq rb K))
    (fun x _ _ ra rb S K => part S x fun t S => bif t then ra S K else rb S K)
    (fun id _ rc S K => rc S (afterBlock id K))
    (fun c rc S K => atLoop A c rc S K)
    (fun _ _ _ _ _ _ => noCode)
    (fun id S K => K (.exit id) S)
    (fun _ _ => noCode)
    (fun _ S K => K .normal S)
    (fun _ => noCode)
    (fun S K => K .ret S)
    (fun _ => noCode) c
end Go.Proofs.Ytncdakkigkmfjaa.Sx
