import Derived.Test.YthbmllekbbfobaaProg
import Derived.Test.YthbmllekbbfobaaSxU
import Derived.IntWalk
/-! What the texts about functions share. -/
namespace Go.Proofs.Ythbmllekbbfobaa.Sx
open Go
theorem mixed : Try.prog.follows .mixedOrders = true := by kernel_rfl
def idxP {α : Type} (p : α → Bool) : List α → Int → Int
  | [], _ => -1
  | y :: l, i => if p y = true then i else idxP p l (i + 1)
theorem idxP_none {α : Type} {p : α → Bool} : ∀ {l : List α} {k : Int}, l.any p = false → idxP p l k = -1
  | [], _, _ => rfl
  | y :: l, k, h => by
    rw [List.any_cons, Bool.or_eq_false_iff] at h
    rw [idxP, if_neg (by rw [h.1]; simp), idxP_none h.2]
theorem idxP_at {α : Type} {p : α → Bool} : ∀ {l : List α} {j : Nat} {d : α} {k : Int}, (l.take j).any p = false → j < l.length → p (l.getD j d) = true → idxP p l k = k + j
  | [], j, d, k, _, hj, _ => by simp at hj
  | y :: l, 0, d, k, _, _, h => by rw [idxP, if_pos (by simpa using h)]; simp
  | y :: l, j + 1, d, k, hb, hj, h => by
    rw [List.take_succ_cons, List.any_cons, Bool.or_eq_false_iff] at hb
    rw [idxP, if_neg (by rw [hb.1]; simp), idxP_at hb.2 (by simpa using hj) (by simpa using h)]
    push_cast; omega
theorem idxP_any {α : Type} {p : α → Bool} : ∀ {l : List α} {k : Int}, 0 ≤ k → decide (0 ≤ idxP p l k) = l.any p
  | [], k, _ => rfl
  | y :: l, k, h => by
    rw [idxP, List.any_cons]
    cases hy : p y with
    | true => simp [h]
    | false => rw [if_neg (by simp), idxP_any (by omega)]; simp
theorem beqInt (a b : Int) : (a == b) = decide (a = b) := by rw [Bool.eq_iff_iff]; simp
def IAny {α : Type} (p : α → Bool) (l : List α) (i : Int) : Prop := ∃ j : Nat, j ≤ l.length ∧ i = j ∧ (l.take j).any p = false
theorem any_snoc {α : Type} {p : α → Bool} {l : List α} {x : α} : (l ++ [x]).any p = (l.any p || p x) := by simp
theorem gOks_nil (P : Program) : GOks P [] := fun _ _ h => by cases h
theorem gOks_cons {P : Program} {f : Nat} {g : GC} {l : List (Nat × GC)} (h : GOk P f g) (hs : GOks P l) : GOks P ((f, g) :: l) := by
  intro f' g' h'
  simp only [lkN] at h'
  rw [beqN] at h'
  by_cases e : f = f'
  · subst e; simp at h'; subst h'; exact h
  · simp [e] at h'; exact hs f' g' h'
abbrev iv (n : Int) : SV := .val (.int .i64 n)
abbrev bv (b : Bool) : SV := .val (.bool b)
abbrev uv (n : Int) : SV := .val (.int .u8 n)
abbrev sv (b : ByteArray) : SV := .val (.string b)
def body (f : Func) : Code := f.body.getD .skip
def pOf : SV → Nat
  | .ptr b _ => b
  | .slF b => b
  | .slP b _ _ => b
  | _ => 0
def toPlain : List SV → Option (List CS)
  | [] => some []
  | .val x :: l => match toPlain l with
    | some r => some (.v x :: r)
    | none => none
  | _ :: _ => none
/-- A struct out of its cells. -/
def decS (k : RK) (l : List SV) : Option (El k) := match toPlain l with
  | some a => dec k a
  | none => none
theorem toPlain_ok : ∀ {l : List SV} {a : List CS}, toPlain l = some a → l = plainSV a ∧ ∀ e ∈ a, ∃ v, e = CS.v v
  | [], a, h => by cases h; exact ⟨rfl, fun e he => by simp at he⟩
  | x :: l, a, h => by
    cases x with
    | val v =>
      simp only [toPlain] at h
      split at h
      · rename_i r hr
        cases h
        obtain ⟨h1, h2⟩ := toPlain_ok hr
        refine ⟨by simp [plainSV, h1], fun e he => ?_⟩
        rcases List.mem_cons.1 he with rfl | he
        · exact ⟨v, rfl⟩
        · exact h2 e he
      · cases h
    | _ => cases h
theorem decS_ok {k : RK} {l : List SV} {x : El k} (hf : flatK k = true) (h : decS k l = some x) : l = plainSV (enc k x) := by
  unfold decS at h
  split at h
  · rename_i a ha
    obtain ⟨h1, h2⟩ := toPlain_ok ha
    rw [h1, dec_plain hf h2 h]
  · cases h
def atS : List SV → Nat → SV
  | [], _ => .undef
  | x :: _, 0 => x
  | _ :: l, n + 1 => atS l n
def cellOf (S : St) (b j : Nat) : SV := match S.look b with
  | some (.cells cs) => atS cs j
  | _ => .undef
def iOf : SV → Int
  | .val (.int _ n) => n
  | _ => 0
/-- A number among values. -/
def iA (l : List SV) (n : Nat) : Int := iOf (atS l n)
theorem wrap64 {n : Int} (h : -9223372036854775808 ≤ n) (h' : n ≤ 9223372036854775807) : IntKind.i64.wrap n = n := by
  rw [IntKind.wrap_i64]; omega
theorem drop_getD {α : Type} {xs : List α} {d : α} {j : Nat} (h : j < xs.length) : xs.drop j = xs.getD j d :: xs.drop (j + 1) := by
  rw [List.drop_eq_getElem_cons h]
  simp [List.getD, h]
theorem take_getD {α : Type} {xs : List α} {d : α} {j : Nat} (h : j < xs.length) : xs.take (j + 1) = xs.take j ++ [xs.getD j d] := by
  rw [List.take_succ_eq_append_getElem h]
  simp [List.getD, h]
theorem toNat0 : Int.toNat 0 = 0 := rfl
theorem toNat1 : Int.toNat 1 = 1 := rfl
theorem toNat2 : Int.toNat 2 = 2 := rfl
theorem toNat3 : Int.toNat 3 = 3 := rfl
theorem toNat4 : Int.toNat 4 = 4 := rfl
theorem toNat5 : Int.toNat 5 = 5 := rfl
theorem toNat6 : Int.toNat 6 = 6 := rfl
theorem toNat7 : Int.toNat 7 = 7 := rfl
theorem toNat8 : Int.toNat 8 = 8 := rfl
theorem toNat9 : Int.toNat 9 = 9 := rfl
theorem toNat10 : Int.toNat 10 = 10 := rfl
theorem toNat11 : Int.toNat 11 = 11 := rfl
theorem toNat12 : Int.toNat 12 = 12 := rfl
theorem toNat13 : Int.toNat 13 = 13 := rfl
theorem toNat14 : Int.toNat 14 = 14 := rfl
theorem toNat15 : Int.toNat 15 = 15 := rfl
theorem toNat16 : Int.toNat 16 = 16 := rfl
theorem toNat17 : Int.toNat 17 = 17 := rfl
theorem toNat18 : Int.toNat 18 = 18 := rfl
theorem toNat19 : Int.toNat 19 = 19 := rfl
theorem Key_eta (x : Key) : (⟨x.op, x.ty, x.card, x.ver⟩ : Key) = x := rfl
theorem Key_beq (x y : Key) : ((x.op == y.op) && ((x.ty == y.ty) && ((x.card == y.card) && ((x.ver == y.ver) && true)))) = decide (x = y) := by
  cases x; cases y; rw [Bool.eq_iff_iff]; simp
abbrev svKey (x : Key) : SV := .agg [iv x.op, iv x.ty, iv x.card, iv x.ver]
abbrev csKey (x : Key) : List SV := [iv x.op, iv x.ty, iv x.card, iv x.ver]
abbrev shKey : List Sh := [.i .i64, .i .i64, .i .i64, .i .i64]
theorem Share_eta (x : Share) : (⟨x.op, x.amount⟩ : Share) = x := rfl
theorem Share_beq (x y : Share) : ((x.op == y.op) && ((x.amount == y.amount) && true)) = decide (x = y) := by
  cases x; cases y; rw [Bool.eq_iff_iff]; simp
abbrev svShare (x : Share) : SV := .agg [iv x.op, iv x.amount]
abbrev csShare (x : Share) : List SV := [iv x.op, iv x.amount]
abbrev shShare : List Sh := [.i .i64, .i .i64]
theorem Journey_eta (x : Journey) : (⟨x.op, x.seq, x.card, x.owner, x.id, x.kind, x.frm, x.to, x.fare, x.day⟩ : Journey) = x := rfl
theorem Journey_beq (x y : Journey) : ((x.op == y.op) && ((x.seq == y.seq) && ((x.card == y.card) && ((x.owner == y.owner) && ((x.id == y.id) && ((x.kind == y.kind) && ((x.frm == y.frm) && ((x.to == y.to) && ((x.fare == y.fare) && ((x.day == y.day) && true)))))))))) = decide (x = y) := by
  cases x; cases y; rw [Bool.eq_iff_iff]; simp
abbrev svJourney (x : Journey) : SV := .agg [iv x.op, iv x.seq, iv x.card, iv x.owner, iv x.id, iv x.kind, iv x.frm, iv x.to, iv x.fare, iv x.day]
abbrev csJourney (x : Journey) : List SV := [iv x.op, iv x.seq, iv x.card, iv x.owner, iv x.id, iv x.kind, iv x.frm, iv x.to, iv x.fare, iv x.day]
abbrev shJourney : List Sh := [.i .i64, .i .i64, .i .i64, .i .i64, .i .i64, .i .i64, .i .i64, .i .i64, .i .i64, .i .i64]
theorem Batch_eta (x : Batch) : (⟨x.op, x.n, x.js⟩ : Batch) = x := rfl
theorem FieldT_eta (x : FieldT) : (⟨x.width, x.value⟩ : FieldT) = x := rfl
theorem FieldT_beq (x y : FieldT) : ((x.width == y.width) && ((x.value == y.value) && true)) = decide (x = y) := by
  cases x; cases y; rw [Bool.eq_iff_iff]; simp
abbrev svFieldT (x : FieldT) : SV := .agg [iv x.width, iv x.value]
abbrev csFieldT (x : FieldT) : List SV := [iv x.width, iv x.value]
abbrev shFieldT : List Sh := [.i .i64, .i .i64]
theorem OpB_eta (x : OpB) : (⟨x.kind, x.n, x.js⟩ : OpB) = x := rfl
theorem Product_eta (x : Product) : (⟨x.kind, x.owner, x.id, x.card, x.ver, x.value, x.last, x.rides, x.open_, x.zone, x.day, x.txn, x.act, x.blocked⟩ : Product) = x := rfl
theorem Product_beq (x y : Product) : ((x.kind == y.kind) && ((x.owner == y.owner) && ((x.id == y.id) && ((x.card == y.card) && ((x.ver == y.ver) && ((x.value == y.value) && ((x.last == y.last) && ((x.rides == y.rides) && ((x.open_ == y.open_) && ((x.zone == y.zone) && ((x.day == y.day) && ((x.txn == y.txn) && ((x.act == y.act) && ((x.blocked == y.blocked) && true)))))))))))))) = decide (x = y) := by
  cases x; cases y; rw [Bool.eq_iff_iff]; simp
abbrev svProduct (x : Product) : SV := .agg [iv x.kind, iv x.owner, iv x.id, iv x.card, iv x.ver, iv x.value, iv x.last, iv x.rides, bv x.open_, iv x.zone, iv x.day, iv x.txn, iv x.act, bv x.blocked]
abbrev csProduct (x : Product) : List SV := [iv x.kind, iv x.owner, iv x.id, iv x.card, iv x.ver, iv x.value, iv x.last, iv x.rides, bv x.open_, iv x.zone, iv x.day, iv x.txn, iv x.act, bv x.blocked]
abbrev shProduct : List Sh := [.i .i64, .i .i64, .i .i64, .i .i64, .i .i64, .i .i64, .i .i64, .i .i64, .b, .i .i64, .i .i64, .i .i64, .i .i64, .b]
theorem Item_eta (x : Item) : (⟨x.card, x.owner, x.id, x.number, x.amount⟩ : Item) = x := rfl
theorem Item_beq (x y : Item) : ((x.card == y.card) && ((x.owner == y.owner) && ((x.id == y.id) && ((x.number == y.number) && ((x.amount == y.amount) && true))))) = decide (x = y) := by
  cases x; cases y; rw [Bool.eq_iff_iff]; simp
abbrev svItem (x : Item) : SV := .agg [iv x.card, iv x.owner, iv x.id, iv x.number, iv x.amount]
abbrev csItem (x : Item) : List SV := [iv x.card, iv x.owner, iv x.id, iv x.number, iv x.amount]
abbrev shItem : List Sh := [.i .i64, .i .i64, .i .i64, .i .i64, .i .i64]
theorem Delta_eta (x : Delta) : (⟨x.to, x.add, x.off⟩ : Delta) = x := rfl
theorem Elem_eta (x : Elem) : (⟨x.tag, x.bytes, x.elems⟩ : Elem) = x := by cases x; rfl
theorem Rule_eta (x : Rule) : (⟨x.owner, x.op, x.weights⟩ : Rule) = x := rfl
theorem Do10_eta (x : Do10) : (⟨x.kind, x.a, x.b⟩ : Do10) = x := rfl
theorem Do10_beq (x y : Do10) : ((x.kind == y.kind) && ((x.a == y.a) && ((x.b == y.b) && true))) = decide (x = y) := by
  cases x; cases y; rw [Bool.eq_iff_iff]; simp
abbrev svDo10 (x : Do10) : SV := .agg [iv x.kind, iv x.a, iv x.b]
abbrev csDo10 (x : Do10) : List SV := [iv x.kind, iv x.a, iv x.b]
abbrev shDo10 : List Sh := [.i .i64, .i .i64, .i .i64]
theorem Ask_eta (x : Ask) : (⟨x.card, x.owner, x.id, x.act⟩ : Ask) = x := rfl
theorem Ask_beq (x y : Ask) : ((x.card == y.card) && ((x.owner == y.owner) && ((x.id == y.id) && ((x.act == y.act) && true)))) = decide (x = y) := by
  cases x; cases y; rw [Bool.eq_iff_iff]; simp
abbrev svAsk (x : Ask) : SV := .agg [iv x.card, iv x.owner, iv x.id, iv x.act]
abbrev csAsk (x : Ask) : List SV := [iv x.card, iv x.owner, iv x.id, iv x.act]
abbrev shAsk : List Sh := [.i .i64, .i .i64, .i .i64, .i .i64]
end Go.Proofs.Ythbmllekbbfobaa.Sx
