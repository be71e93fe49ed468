import Derived.Orders
/-! Kinds of rows: the data that this program's slices hold, as plain Lean types. -/
namespace Go.Proofs.Ythbmllekbbfobaa.Sx
open Go

structure Key where
  op : Int
  ty : Int
  card : Int
  ver : Int
  deriving DecidableEq
structure Share where
  op : Int
  amount : Int
  deriving DecidableEq
structure Journey where
  op : Int
  seq : Int
  card : Int
  owner : Int
  id : Int
  kind : Int
  frm : Int
  to : Int
  fare : Int
  day : Int
  deriving DecidableEq
structure Batch where
  op : Int
  n : Int
  js : List Journey
structure FieldT where
  width : Int
  value : Int
  deriving DecidableEq
structure OpB where
  kind : Int
  n : Int
  js : List Journey
structure Product where
  kind : Int
  owner : Int
  id : Int
  card : Int
  ver : Int
  value : Int
  last : Int
  rides : Int
  open_ : Bool
  zone : Int
  day : Int
  txn : Int
  act : Int
  blocked : Bool
  deriving DecidableEq
structure Item where
  card : Int
  owner : Int
  id : Int
  number : Int
  amount : Int
  deriving DecidableEq
structure Delta where
  to : Int
  add : List Item
  off : List Item
inductive Elem where
  | mk (tag : Int) (bytes : List Int) (elems : List Elem)
@[reducible] def Elem.tag : Elem → Int
  | .mk x _ _ => x
@[reducible] def Elem.bytes : Elem → List Int
  | .mk _ x _ => x
@[reducible] def Elem.elems : Elem → List Elem
  | .mk _ _ x => x
structure Rule where
  owner : Int
  op : Int
  weights : List Int
structure Do10 where
  kind : Int
  a : Int
  b : Int
  deriving DecidableEq
structure Ask where
  card : Int
  owner : Int
  id : Int
  act : Int
  deriving DecidableEq

inductive RK where
  | int | u8 | bool | str | key | share | journey | batch | fieldT | opB | product | item | delta | elem | rule | do10 | ask
  deriving DecidableEq

@[reducible] def El : RK → Type
  | .int => Int
  | .u8 => Int
  | .bool => Bool
  | .str => ByteArray
  | .key => Key
  | .share => Share
  | .journey => Journey
  | .batch => Batch
  | .fieldT => FieldT
  | .opB => OpB
  | .product => Product
  | .item => Item
  | .delta => Delta
  | .elem => Elem
  | .rule => Rule
  | .do10 => Do10
  | .ask => Ask

/-- What a cell of an element holds: a plain value, or a slice of elements of a kind. -/
inductive CS where
  | v (x : Value)
  | s (k : RK) (ys : List (El k))

@[reducible] def i64 (n : Int) : CS := .v (.int .i64 n)

def sz : RK → Nat
  | .int => 1
  | .u8 => 1
  | .bool => 1
  | .str => 1
  | .key => 4
  | .share => 2
  | .journey => 10
  | .batch => 3
  | .fieldT => 2
  | .opB => 3
  | .product => 14
  | .item => 5
  | .delta => 3
  | .elem => 3
  | .rule => 3
  | .do10 => 3
  | .ask => 4

def enc : (k : RK) → El k → List CS
  | .int, x => [.v (.int .i64 x)]
  | .u8, x => [.v (.int .u8 x)]
  | .bool, x => [.v (.bool x)]
  | .str, x => [.v (.string x)]
  | .key, x => [.v (.int .i64 x.op), .v (.int .i64 x.ty), .v (.int .i64 x.card), .v (.int .i64 x.ver)]
  | .share, x => [.v (.int .i64 x.op), .v (.int .i64 x.amount)]
  | .journey, x => [.v (.int .i64 x.op), .v (.int .i64 x.seq), .v (.int .i64 x.card), .v (.int .i64 x.owner), .v (.int .i64 x.id), .v (.int .i64 x.kind), .v (.int .i64 x.frm), .v (.int .i64 x.to), .v (.int .i64 x.fare), .v (.int .i64 x.day)]
  | .batch, x => [.v (.int .i64 x.op), .v (.int .i64 x.n), .s .journey x.js]
  | .fieldT, x => [.v (.int .i64 x.width), .v (.int .i64 x.value)]
  | .opB, x => [.v (.int .i64 x.kind), .v (.int .i64 x.n), .s .journey x.js]
  | .product, x => [.v (.int .i64 x.kind), .v (.int .i64 x.owner), .v (.int .i64 x.id), .v (.int .i64 x.card), .v (.int .i64 x.ver), .v (.int .i64 x.value), .v (.int .i64 x.last), .v (.int .i64 x.rides), .v (.bool x.open_), .v (.int .i64 x.zone), .v (.int .i64 x.day), .v (.int .i64 x.txn), .v (.int .i64 x.act), .v (.bool x.blocked)]
  | .item, x => [.v (.int .i64 x.card), .v (.int .i64 x.owner), .v (.int .i64 x.id), .v (.int .i64 x.number), .v (.int .i64 x.amount)]
  | .delta, x => [.v (.int .i64 x.to), .s .item x.add, .s .item x.off]
  | .elem, x => [.v (.int .i64 x.tag), .s .u8 x.bytes, .s .elem x.elems]
  | .rule, x => [.v (.int .i64 x.owner), .v (.int .i64 x.op), .s .int x.weights]
  | .do10, x => [.v (.int .i64 x.kind), .v (.int .i64 x.a), .v (.int .i64 x.b)]
  | .ask, x => [.v (.int .i64 x.card), .v (.int .i64 x.owner), .v (.int .i64 x.id), .v (.int .i64 x.act)]

/-- The zero of a kind. -/
def zK : (k : RK) → El k
  | .int => (0 : Int)
  | .u8 => (0 : Int)
  | .bool => (false : Bool)
  | .str => (ByteArray.empty : ByteArray)
  | .key => ⟨0, 0, 0, 0⟩
  | .share => ⟨0, 0⟩
  | .journey => ⟨0, 0, 0, 0, 0, 0, 0, 0, 0, 0⟩
  | .batch => ⟨0, 0, []⟩
  | .fieldT => ⟨0, 0⟩
  | .opB => ⟨0, 0, []⟩
  | .product => ⟨0, 0, 0, 0, 0, 0, 0, 0, false, 0, 0, 0, 0, false⟩
  | .item => ⟨0, 0, 0, 0, 0⟩
  | .delta => ⟨0, [], []⟩
  | .elem => ⟨0, [], []⟩
  | .rule => ⟨0, 0, []⟩
  | .do10 => ⟨0, 0, 0⟩
  | .ask => ⟨0, 0, 0, 0⟩

/-- An element out of its cells. -/
def dec : (k : RK) → List CS → Option (El k)
  | .int, [.v (.int .i64 x0)] => some x0
  | .u8, [.v (.int .u8 x0)] => some x0
  | .bool, [.v (.bool x0)] => some x0
  | .str, [.v (.string x0)] => some x0
  | .key, [.v (.int .i64 x0), .v (.int .i64 x1), .v (.int .i64 x2), .v (.int .i64 x3)] => some ⟨x0, x1, x2, x3⟩
  | .share, [.v (.int .i64 x0), .v (.int .i64 x1)] => some ⟨x0, x1⟩
  | .journey, [.v (.int .i64 x0), .v (.int .i64 x1), .v (.int .i64 x2), .v (.int .i64 x3), .v (.int .i64 x4), .v (.int .i64 x5), .v (.int .i64 x6), .v (.int .i64 x7), .v (.int .i64 x8), .v (.int .i64 x9)] => some ⟨x0, x1, x2, x3, x4, x5, x6, x7, x8, x9⟩
  | .batch, [.v (.int .i64 x0), .v (.int .i64 x1), .s .journey x2] => some ⟨x0, x1, x2⟩
  | .batch, [.v (.int .i64 x0), .v (.int .i64 x1), .v (.slice none 0 0)] => some ⟨x0, x1, []⟩
  | .fieldT, [.v (.int .i64 x0), .v (.int .i64 x1)] => some ⟨x0, x1⟩
  | .opB, [.v (.int .i64 x0), .v (.int .i64 x1), .s .journey x2] => some ⟨x0, x1, x2⟩
  | .opB, [.v (.int .i64 x0), .v (.int .i64 x1), .v (.slice none 0 0)] => some ⟨x0, x1, []⟩
  | .product, [.v (.int .i64 x0), .v (.int .i64 x1), .v (.int .i64 x2), .v (.int .i64 x3), .v (.int .i64 x4), .v (.int .i64 x5), .v (.int .i64 x6), .v (.int .i64 x7), .v (.bool x8), .v (.int .i64 x9), .v (.int .i64 x10), .v (.int .i64 x11), .v (.int .i64 x12), .v (.bool x13)] => some ⟨x0, x1, x2, x3, x4, x5, x6, x7, x8, x9, x10, x11, x12, x13⟩
  | .item, [.v (.int .i64 x0), .v (.int .i64 x1), .v (.int .i64 x2), .v (.int .i64 x3), .v (.int .i64 x4)] => some ⟨x0, x1, x2, x3, x4⟩
  | .delta, [.v (.int .i64 x0), .s .item x1, .s .item x2] => some ⟨x0, x1, x2⟩
  | .delta, [.v (.int .i64 x0), .v (.slice none 0 0), .s .item x2] => some ⟨x0, [], x2⟩
  | .delta, [.v (.int .i64 x0), .s .item x1, .v (.slice none 0 0)] => some ⟨x0, x1, []⟩
  | .delta, [.v (.int .i64 x0), .v (.slice none 0 0), .v (.slice none 0 0)] => some ⟨x0, [], []⟩
  | .elem, [.v (.int .i64 x0), .s .u8 x1, .s .elem x2] => some ⟨x0, x1, x2⟩
  | .elem, [.v (.int .i64 x0), .v (.slice none 0 0), .s .elem x2] => some ⟨x0, [], x2⟩
  | .elem, [.v (.int .i64 x0), .s .u8 x1, .v (.slice none 0 0)] => some ⟨x0, x1, []⟩
  | .elem, [.v (.int .i64 x0), .v (.slice none 0 0), .v (.slice none 0 0)] => some ⟨x0, [], []⟩
  | .rule, [.v (.int .i64 x0), .v (.int .i64 x1), .s .int x2] => some ⟨x0, x1, x2⟩
  | .rule, [.v (.int .i64 x0), .v (.int .i64 x1), .v (.slice none 0 0)] => some ⟨x0, x1, []⟩
  | .do10, [.v (.int .i64 x0), .v (.int .i64 x1), .v (.int .i64 x2)] => some ⟨x0, x1, x2⟩
  | .ask, [.v (.int .i64 x0), .v (.int .i64 x1), .v (.int .i64 x2), .v (.int .i64 x3)] => some ⟨x0, x1, x2, x3⟩
  | _, _ => none

/-- Elements of one kind, as of another: if it is the same. -/
def castK : (k k' : RK) → List (El k') → Option (List (El k))
  | .int, .int, xs => some xs
  | .u8, .u8, xs => some xs
  | .bool, .bool, xs => some xs
  | .str, .str, xs => some xs
  | .key, .key, xs => some xs
  | .share, .share, xs => some xs
  | .journey, .journey, xs => some xs
  | .batch, .batch, xs => some xs
  | .fieldT, .fieldT, xs => some xs
  | .opB, .opB, xs => some xs
  | .product, .product, xs => some xs
  | .item, .item, xs => some xs
  | .delta, .delta, xs => some xs
  | .elem, .elem, xs => some xs
  | .rule, .rule, xs => some xs
  | .do10, .do10, xs => some xs
  | .ask, .ask, xs => some xs
  | _, _, _ => none

/-- How many elements lie in the slices of an element. -/
def wt_key (_ : Key) : Nat := 0
def wt_share (_ : Share) : Nat := 0
def wt_journey (_ : Journey) : Nat := 0
def wt_batch (x : Batch) : Nat := (x.js.map fun y => wt_journey y + 1).sum
def wt_fieldT (_ : FieldT) : Nat := 0
def wt_opB (x : OpB) : Nat := (x.js.map fun y => wt_journey y + 1).sum
def wt_product (_ : Product) : Nat := 0
def wt_item (_ : Item) : Nat := 0
def wt_delta (x : Delta) : Nat := (x.add.map fun y => wt_item y + 1).sum + (x.off.map fun y => wt_item y + 1).sum
mutual
def wt_elem : Elem → Nat
  | .mk _ x1 x2 => (x1.map fun _ => 0 + 1).sum + wt_elems x2
def wt_elems : List Elem → Nat
  | [] => 0
  | x :: l => wt_elem x + 1 + wt_elems l
end
theorem wt_elems_eq : ∀ l : List Elem, wt_elems l = (l.map fun y => wt_elem y + 1).sum
  | [] => by simp [wt_elems]
  | x :: l => by simp [wt_elems, wt_elems_eq l]
def wt_rule (x : Rule) : Nat := (x.weights.map fun _ => 0 + 1).sum
def wt_do10 (_ : Do10) : Nat := 0
def wt_ask (_ : Ask) : Nat := 0
def wt : (k : RK) → El k → Nat
  | .int, _ => 0
  | .u8, _ => 0
  | .bool, _ => 0
  | .str, _ => 0
  | .key, x => wt_key x
  | .share, x => wt_share x
  | .journey, x => wt_journey x
  | .batch, x => wt_batch x
  | .fieldT, x => wt_fieldT x
  | .opB, x => wt_opB x
  | .product, x => wt_product x
  | .item, x => wt_item x
  | .delta, x => wt_delta x
  | .elem, x => wt_elem x
  | .rule, x => wt_rule x
  | .do10, x => wt_do10 x
  | .ask, x => wt_ask x
def wC : CS → Nat
  | .v _ => 0
  | .s k ys => (ys.map fun y => wt k y + 1).sum
theorem wt_enc (k : RK) (x : El k) : ((enc k x).map wC).sum = wt k x := by
  cases k <;> (try cases x) <;> simp [enc, wC, wt, wt_key, wt_share, wt_journey, wt_batch, wt_fieldT, wt_opB, wt_product, wt_item, wt_delta, wt_elem, wt_elems_eq, wt_rule, wt_do10, wt_ask]

/-- For all, in plain types. -/
def allL : (k : RK) → (List (El k) → Prop) → Prop
  | .int, K => ∀ l : List Int, K l
  | .u8, K => ∀ l : List Int, K l
  | .bool, K => ∀ l : List Bool, K l
  | .str, K => ∀ l : List ByteArray, K l
  | .key, K => ∀ l : List Key, K l
  | .share, K => ∀ l : List Share, K l
  | .journey, K => ∀ l : List Journey, K l
  | .batch, K => ∀ l : List Batch, K l
  | .fieldT, K => ∀ l : List FieldT, K l
  | .opB, K => ∀ l : List OpB, K l
  | .product, K => ∀ l : List Product, K l
  | .item, K => ∀ l : List Item, K l
  | .delta, K => ∀ l : List Delta, K l
  | .elem, K => ∀ l : List Elem, K l
  | .rule, K => ∀ l : List Rule, K l
  | .do10, K => ∀ l : List Do10, K l
  | .ask, K => ∀ l : List Ask, K l
def allE : (k : RK) → (El k → Prop) → Prop
  | .int, K => ∀ x : Int, K x
  | .u8, K => ∀ x : Int, K x
  | .bool, K => ∀ x : Bool, K x
  | .str, K => ∀ x : ByteArray, K x
  | .key, K => ∀ x : Key, K x
  | .share, K => ∀ x : Share, K x
  | .journey, K => ∀ x : Journey, K x
  | .batch, K => ∀ x : Batch, K x
  | .fieldT, K => ∀ x : FieldT, K x
  | .opB, K => ∀ x : OpB, K x
  | .product, K => ∀ x : Product, K x
  | .item, K => ∀ x : Item, K x
  | .delta, K => ∀ x : Delta, K x
  | .elem, K => ∀ x : Elem, K x
  | .rule, K => ∀ x : Rule, K x
  | .do10, K => ∀ x : Do10, K x
  | .ask, K => ∀ x : Ask, K x
theorem allL_iff {k : RK} {K : List (El k) → Prop} : allL k K ↔ ∀ l, K l := by cases k <;> exact Iff.rfl
theorem allE_iff {k : RK} {K : El k → Prop} : allE k K ↔ ∀ x, K x := by cases k <;> exact Iff.rfl
theorem castK_some {k k' : RK} {xs : List (El k')} {ys : List (El k)} (h : castK k k' xs = some ys) : ∃ e : k' = k, e ▸ xs = ys := by
  cases k <;> cases k' <;> simp [castK] at h <;> exact ⟨rfl, h⟩

theorem sz_pos (k : RK) : 0 < sz k := by cases k <;> decide
theorem enc_length (k : RK) (x : El k) : (enc k x).length = sz k := by cases k <;> rfl
theorem sz_le (k : RK) : sz k ≤ 32 := by cases k <;> decide
theorem zK_getD {k : RK} {xs : List (El k)} {i : Nat} (h : i < xs.length) : xs.getD i (zK k) = xs[i] := by simp [List.getD, h]
end Go.Proofs.Ythbmllekbbfobaa.Sx
