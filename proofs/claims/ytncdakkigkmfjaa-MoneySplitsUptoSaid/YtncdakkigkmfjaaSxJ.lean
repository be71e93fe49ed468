import Derived.Test.YtncdakkigkmfjaaSxH
/-! Contracts: what a function makes of its arguments and of the blocks behind them, in numbers of its own: 0, 1, .. as they are met; new ones from 2000 on. -/
namespace Go.Proofs.Ytncdakkigkmfjaa.Sx
open Go
set_option linter.unusedVariables false
set_option linter.unusedSimpArgs false

def ixN : List Nat → Nat → Nat
  | [], _ => 0
  | a :: l, b => bif Nat.beq a b then 0 else ixN l b + 1
def atN : List Nat → Nat → Nat
  | [], _ => 0
  | a :: _, 0 => a
  | _ :: l, n + 1 => atN l n
def collect (H : VH) : Nat → List Nat → List Nat → List Nat
  | 0, _, acc => acc
  | _ + 1, [], acc => acc
  | n + 1, b :: q, acc => bif memN b acc then collect H n q acc else match H b with
    | some (.cells cs) => collect H n (q ++ idsL cs) (acc ++ [b])
    | _ => collect H n q (acc ++ [b])
def blocksOf (H : VH) (f : Nat → Nat) : List Nat → Nat → List (Nat × VB)
  | [], _ => []
  | b :: l, i => match H b with
    | some vb => (i, vb.ren f) :: blocksOf H f l (i + 1)
    | none => blocksOf H f l (i + 1)
def idsAt (H : VH) (b : Nat) : List Nat := match H b with
  | some (.cells cs) => idsL cs
  | _ => []
def okSig (H : VH) (args : List SV) (key : Nat) (sig : List Nat) : Bool :=
  (idsL args ++ sig.flatMap (idsAt H)).all (fun b => memN b sig) && (nodupN sig && (Nat.ble (lenN sig) 64 && sig.all (fun b => !(Nat.ble key b && Nat.blt b (key + 50)))))
def gN (sig : List Nat) (key j : Nat) : Nat := bif Nat.blt j (lenN sig) then atN sig j else key + (j - 2000)
def okNew (sig : List Nat) (l : List Nat) : Bool := l.all fun j => Nat.blt j (lenN sig) || (Nat.ble 2000 j && Nat.blt j 2050)
def renU (g : Nat → Nat) : List (Nat × Option VB) → List (Nat × Option VB)
  | [] => []
  | (b, none) :: l => (g b, none) :: renU g l
  | (b, some v) :: l => (g b, some (v.ren g)) :: renU g l
def renOk (sig : List Nat) (key : Nat) (nu : List (Nat × Option VB)) (s : SV) (u : List (Nat × Option VB)) (c : SV → List (Nat × Option VB) → R) : R :=
  bif okNew sig s.ids && okNew sig (idsU u) then c (s.ren (gN sig key)) (renU (gN sig key) u ++ nu) else .fail "numbers of a contract"
noncomputable def renR (sig : List Nat) (key : Nat) (nu : List (Nat × Option VB)) (r : R) : R :=
  R.rec (motive := fun _ => R) (fun s u => renOk sig key nu s u .ok) (fun d s u => renOk sig key nu s u (.vc d)) (fun t _ _ a b => .br t a b) (fun w => .fail w) r
abbrev Spec := List SV → List (Nat × VB) → R
noncomputable def lift (ks : List (Option RK)) (f : Spec) : GC := fun args H key =>
  fL args fun args => match nilCs ks args (key + 50) with
  | (args1, nu) => fL args1 fun args1 => fNs (collect (upd nu H) 400 (idsL args1) []) fun sig => bif okSig (upd nu H) args1 key sig && (Nat.beq (lenN args) (lenN ks) && Nat.ble (lenN ks) 13) then
        renR sig key nu (f (renL (ixN sig) args1) (blocksOf (upd nu H) (ixN sig) sig 0))
      else .fail "arguments"

/-! What is so at the end: the results and blocks are those that are told. -/
def mtV (x y : Value) (K : Prop → Prop) : Prop := match x, y with
  | .int k a, .int k' b => if k' = k then K (b = a) else Fail "a result of another kind"
  | .bool a, .bool b => K (b = a)
  | .string a, .string b => K (b = a)
  | x, y => K (y = x)
def bindN (t : Ren) (j b : Nat) (K : Ren → Prop) : Prop :=
  bif Nat.blt j 1024 then (bif Nat.beq j b then K t else Fail "another block") else match lkN t j with
    | some c => bif Nat.beq c b then K t else Fail "another block"
    | none => K ((j, b) :: t)
mutual
/-- x: what is told; y: what is there. p: what is to be shown. -/
def mt : SV → SV → Ren → Prop → (Ren → Prop → Prop) → Prop
  | .val x, .val y, t, p, K => mtV x y fun q => K t (q ∧ p)
  | .ptr j c, .ptr b c', t, p, K => bif Nat.beq c c' then bindN t j b fun t => K t p else Fail "another cell"
  | .elt j i c, .elt b i' c', t, p, K => bif Nat.beq c c' then bindN t j b fun t => K t (i' = i ∧ p) else Fail "another cell"
  | .slF j, .slF b, t, p, K => bindN t j b fun t => K t p
  | .slP j i n, .slP b i' n', t, p, K => bindN t j b fun t => K t ((i' = i ∧ n' = n) ∧ p)
  | .agg l, .agg l', t, p, K => mtL l l' t p K
  | .tup l, .tup l', t, p, K => mtL l l' t p K
  | .fn f a c, .fn f' a' c', t, p, K => f' = f ∧ mtL a a' t p fun t p => mtL c c' t p K
  | _, _, _, _, _ => Fail "a result of another form"
def mtL : List SV → List SV → Ren → Prop → (Ren → Prop → Prop) → Prop
  | [], [], t, p, K => K t p
  | x :: l, y :: l', t, p, K => mt x y t p fun t p => mtL l l' t p K
  | _, _, _, _, _ => Fail "how many?"
end
def mtB (S : St) (vb : VB) (b : Nat) (t : Ren) (p : Prop) (K : Ren → Prop → Prop) : Prop := match vb, S.look b with
  | .cells cs, some (.cells cs') => mtL cs cs' t p K
  | .row o k xs, some (.row o' k' xs') => match castK k k' xs' with
    | some ys => K t ((o' = o ∧ ys = xs) ∧ p)
    | none => Fail "a row of another kind"
  | _, _ => Fail "a block of another form"
def mtU (S : St) : List (Nat × Option VB) → Ren → Prop → (Ren → Prop → Prop) → Prop
  | [], t, p, K => K t p
  | (_, none) :: l, t, p, K => mtU S l t p K
  | (j, some vb) :: l, t, p, K => bif Nat.blt j 1024 then mtB S vb j t p fun t p => mtU S l t p K else match lkN t j with
    | some b => mtB S vb b t p fun t p => mtU S l t p K
    | none => Fail "a block that nothing leads to"
def imgs (t : Ren) : List (Nat × Option VB) → List Nat
  | [] => []
  | (_, none) :: l => imgs t l
  | (j, some _) :: l => tl t j :: imgs t l
def okEnd (u : List (Nat × Option VB)) (t : Ren) (S : St) (old : Nat) : Bool :=
  nodupN (imgs t u) && (t.all (fun p => Nat.ble 1024 p.2 || memN p.2 (keysOf u)) && (keysOf (S.hp.take (lenN S.hp - old))).all (fun b => Nat.ble 1024 b || memN b (keysOf u)))
def unpack (ss : List SV) (s : SV) : List SV := match ss with
  | [_] => [s]
  | _ => match s with
    | .tup l => l
    | _ => [.undef]
/-- The results are what is told. -/
structure Res (p : Prop) : Prop where
  ok : p
def fitsEnd (s : SV) (u : List (Nat × Option VB)) (old : Nat) (ss : List SV) (S : St) : Prop :=
  mtL (unpack ss s) ss [] True fun t p => mtU S u t p fun t p => okEnd u t S old = true ∧ Res p

def somesV : List (Nat × VB) → List (Nat × Option VB)
  | [] => []
  | (b, v) :: l => (b, some v) :: somesV l
def number (i : Nat) : List SV → List (Nat × SV)
  | [] => []
  | s :: l => (i, s) :: number (i + 1) l
def start (args : List SV) (hp : List (Nat × VB)) : St := ⟨number 0 args, somesV hp, 1024, []⟩

/-- What a part of a slice is known to be. -/
def fitS (hp : List (Nat × VB)) : SV → Prop
  | .slP b i n => match lkN hp b with
    | some (.row _ _ xs) => n = 0 ∨ i + n ≤ xs.length
    | _ => True
  | _ => True
def Fit (hp : List (Nat × VB)) : List SV → Prop
  | [] => True
  | x :: l => fitS hp x ∧ Fit hp l

/-! What that says. -/
theorem mtV_ok {x y : Value} {K : Prop → Prop} (h : mtV x y K) : ∃ q, K q ∧ (q → y = x) := by
  unfold mtV at h
  split at h
  · split at h
    · rename_i e; exact ⟨_, h, fun q => by rw [e, q]⟩
    · exact h.elim
  · exact ⟨_, h, fun q => by rw [q]⟩
  · exact ⟨_, h, fun q => by rw [q]⟩
  · exact ⟨_, h, id⟩
def Low (t : Ren) : Prop := ∀ p ∈ t, 1024 ≤ p.1
theorem Low.tl {t : Ren} (h : Low t) {b : Nat} (hb : b < 1024) : tl t b = b := by
  unfold Sx.tl
  have : lkN t b = none := lkN_none.2 fun p hp e => by have := h p hp; omega
  rw [this]
/-- A number that is told, or an old one. -/
def Bound (t : Ren) (b : Nat) : Prop := b < 1024 ∨ ∃ c, lkN t b = some c
theorem Bound.ext {t t' : Ren} (h : Ext t t') {b : Nat} (hb : Bound t b) : Bound t' b := hb.imp id fun ⟨c, hc⟩ => ⟨c, h _ _ hc⟩
theorem bindN_ok {t : Ren} {j b : Nat} {K : Ren → Prop} (hl : Low t) (h : bindN t j b K) : ∃ t', K t' ∧ Ext t t' ∧ Low t' ∧ (∀ t'', Ext t' t'' → Low t'' → tl t'' j = b) ∧ Bound t' j := by
  unfold bindN at h
  cases hj : Nat.blt j 1024 with
  | true =>
    rw [hj] at h
    rw [Nat.blt_eq] at hj
    rw [beqN] at h
    by_cases e : j = b
    · rw [decide_eq_true e] at h
      exact ⟨t, h, .refl t, hl, fun t'' _ h2 => by rw [h2.tl hj, e], .inl hj⟩
    · rw [decide_eq_false e] at h; exact h.elim
  | false =>
    rw [hj] at h
    have hj' : 1024 ≤ j := by
      have : ¬ j < 1024 := by rw [← Nat.blt_eq, hj]; simp
      omega
    simp only [cond_false] at h
    split at h
    · rename_i c hc
      rw [beqN] at h
      by_cases e : c = b
      · rw [decide_eq_true e] at h
        exact ⟨t, h, .refl t, hl, fun t'' h1 _ => by rw [h1.tl hc, e], .inr ⟨c, hc⟩⟩
      · rw [decide_eq_false e] at h; exact h.elim
    · rename_i hc
      have hcb : lkN ((j, b) :: t) j = some b := by simp [lkN]
      exact ⟨_, h, .cons hc, fun p hp => by
        rcases List.mem_cons.1 hp with rfl | hp
        · exact hj'
        · exact hl p hp, fun t'' h1 _ => h1.tl hcb, .inr ⟨b, hcb⟩⟩
mutual
theorem mt_ok : ∀ (s : SV) {x : SV} {t : Ren} {p : Prop} {K : Ren → Prop → Prop}, Low t → mt s x t p K → ∃ t' q, K t' q ∧ Ext t t' ∧ Low t' ∧ (q → p ∧ ∀ t'', Ext t' t'' → Low t'' → s.ren (tl t'') = x) ∧ ∀ b ∈ s.ids, Bound t' b
  | .undef, x, t, p, K, hl, h => by cases x <;> exact h.elim
  | .val v, x, t, p, K, hl, h => by
    cases x with
    | val y =>
      obtain ⟨q, h1, h2⟩ := mtV_ok (show mtV v y fun q => K t (q ∧ p) from h)
      exact ⟨t, q ∧ p, h1, .refl t, hl, fun hq => ⟨hq.2, fun _ _ _ => by rw [h2 hq.1]; rfl⟩, fun b hb => by simp [SV.ids] at hb⟩
    | _ => exact h.elim
  | .ptr j c, x, t, p, K, hl, h => by
    cases x with
    | ptr b c' =>
      have h : bif Nat.beq c c' then bindN t j b (fun t => K t p) else Fail "another cell" := h
      rw [beqN] at h
      by_cases e : c = c'
      · rw [decide_eq_true e] at h
        have hh : bindN t j b (fun t => K t p) := h
        obtain ⟨t', h1, h2, h3, h4, h5⟩ := bindN_ok hl hh
        exact ⟨t', p, h1, h2, h3, fun hp => ⟨hp, fun t'' q1 q2 => by simp only [SV.ren]; rw [h4 t'' q1 q2, e]⟩, fun b' hb => by simp only [SV.ids, List.mem_singleton] at hb; rw [hb]; exact h5⟩
      · rw [decide_eq_false e] at h; exact h.elim
    | _ => exact h.elim
  | .elt j i c, x, t, p, K, hl, h => by
    cases x with
    | elt b i' c' =>
      have h : bif Nat.beq c c' then bindN t j b (fun t => K t (i' = i ∧ p)) else Fail "another cell" := h
      rw [beqN] at h
      by_cases e : c = c'
      · rw [decide_eq_true e] at h
        have hh : bindN t j b (fun t => K t (i' = i ∧ p)) := h
        obtain ⟨t', h1, h2, h3, h4, h5⟩ := bindN_ok hl hh
        exact ⟨t', _, h1, h2, h3, fun hp => ⟨hp.2, fun t'' q1 q2 => by simp only [SV.ren]; rw [h4 t'' q1 q2, e, hp.1]⟩, fun b' hb => by simp only [SV.ids, List.mem_singleton] at hb; rw [hb]; exact h5⟩
      · rw [decide_eq_false e] at h; exact h.elim
    | _ => exact h.elim
  | .slF j, x, t, p, K, hl, h => by
    cases x with
    | slF b =>
      obtain ⟨t', h1, h2, h3, h4, h5⟩ := bindN_ok hl (show bindN t j b (fun t => K t p) from h)
      exact ⟨t', p, h1, h2, h3, fun hp => ⟨hp, fun t'' q1 q2 => by simp only [SV.ren]; rw [h4 t'' q1 q2]⟩, fun b' hb => by simp only [SV.ids, List.mem_singleton] at hb; rw [hb]; exact h5⟩
    | _ => exact h.elim
  | .slP j i n, x, t, p, K, hl, h => by
    cases x with
    | slP b i' n' =>
      obtain ⟨t', h1, h2, h3, h4, h5⟩ := bindN_ok hl (show bindN t j b (fun t => K t ((i' = i ∧ n' = n) ∧ p)) from h)
      exact ⟨t', _, h1, h2, h3, fun hp => ⟨hp.2, fun t'' q1 q2 => by simp only [SV.ren]; rw [h4 t'' q1 q2, hp.1.1, hp.1.2]⟩, fun b' hb => by simp only [SV.ids, List.mem_singleton] at hb; rw [hb]; exact h5⟩
    | _ => exact h.elim
  | .agg l, x, t, p, K, hl, h => by
    cases x with
    | agg l' =>
      obtain ⟨t', q, h1, h2, h3, h4, h5⟩ := mtL_ok l hl (show mtL l l' t p K from h)
      exact ⟨t', q, h1, h2, h3, fun hq => ⟨(h4 hq).1, fun t'' q1 q2 => by simp only [SV.ren]; rw [(h4 hq).2 t'' q1 q2]⟩, by simpa [SV.ids] using h5⟩
    | _ => exact h.elim
  | .tup l, x, t, p, K, hl, h => by
    cases x with
    | tup l' =>
      obtain ⟨t', q, h1, h2, h3, h4, h5⟩ := mtL_ok l hl (show mtL l l' t p K from h)
      exact ⟨t', q, h1, h2, h3, fun hq => ⟨(h4 hq).1, fun t'' q1 q2 => by simp only [SV.ren]; rw [(h4 hq).2 t'' q1 q2]⟩, by simpa [SV.ids] using h5⟩
    | _ => exact h.elim
  | .fn f a c, x, t, p, K, hl, h => by
    cases x with
    | fn f' a' c' =>
      obtain ⟨rfl, h⟩ : f' = f ∧ mtL a a' t p fun t p => mtL c c' t p K := h
      obtain ⟨t1, r1, h1, h2, h3, h4, h5⟩ := mtL_ok a hl h
      obtain ⟨t2, r2, g1, g2, g3, g4, g5⟩ := mtL_ok c h3 h1
      refine ⟨t2, r2, g1, h2.trans g2, g3, fun hq => ⟨(h4 (g4 hq).1).1, fun t'' q1 q2 => by simp only [SV.ren]; rw [(h4 (g4 hq).1).2 t'' (g2.trans q1) q2, (g4 hq).2 t'' q1 q2]⟩, fun b hb => ?_⟩
      simp only [SV.ids, List.mem_append] at hb
      rcases hb with hb | hb
      · exact (h5 b hb).ext g2
      · exact g5 b hb
    | _ => exact h.elim
theorem mtL_ok : ∀ (l : List SV) {l' : List SV} {t : Ren} {p : Prop} {K : Ren → Prop → Prop}, Low t → mtL l l' t p K → ∃ t' q, K t' q ∧ Ext t t' ∧ Low t' ∧ (q → p ∧ ∀ t'', Ext t' t'' → Low t'' → renL (tl t'') l = l') ∧ ∀ b ∈ idsL l, Bound t' b
  | [], l', t, p, K, hl, h => by
    cases l' with
    | nil => exact ⟨t, p, h, .refl t, hl, fun hp => ⟨hp, fun _ _ _ => rfl⟩, fun b hb => by simp [idsL] at hb⟩
    | cons y l' => exact h.elim
  | s :: l, l', t, p, K, hl, h => by
    cases l' with
    | nil => exact h.elim
    | cons y l' =>
      obtain ⟨t1, r1, h1, h2, h3, h4, h5⟩ := mt_ok s hl (show mt s y t p fun t p => mtL l l' t p K from h)
      obtain ⟨t2, r2, g1, g2, g3, g4, g5⟩ := mtL_ok l h3 h1
      refine ⟨t2, r2, g1, h2.trans g2, g3, fun hq => ⟨(h4 (g4 hq).1).1, fun t'' q1 q2 => by simp only [renL]; rw [(h4 (g4 hq).1).2 t'' (g2.trans q1) q2, (g4 hq).2 t'' q1 q2]⟩, fun b hb => ?_⟩
      simp only [idsL, List.mem_append] at hb
      rcases hb with hb | hb
      · exact (h5 b hb).ext g2
      · exact g5 b hb
end
theorem mtB_ok {S : St} {vb : VB} {b : Nat} {t : Ren} {p : Prop} {K : Ren → Prop → Prop} (hl : Low t) (h : mtB S vb b t p K) : ∃ t' q, K t' q ∧ Ext t t' ∧ Low t' ∧ (q → p ∧ ∀ t'', Ext t' t'' → Low t'' → S.look b = some (vb.ren (tl t''))) ∧ ∀ x ∈ vb.ids, Bound t' x := by
  unfold mtB at h
  split at h
  · rename_i cs cs' hb
    obtain ⟨t', q, h1, h2, h3, h4, h5⟩ := mtL_ok cs hl h
    exact ⟨t', q, h1, h2, h3, fun hq => ⟨(h4 hq).1, fun t'' q1 q2 => by rw [hb]; simp only [VB.ren]; rw [(h4 hq).2 t'' q1 q2]⟩, h5⟩
  · rename_i o k xs o' k' xs' hb
    split at h
    · rename_i ys hk
      obtain ⟨rfl, e⟩ := castK_some hk
      simp only at e
      subst e
      exact ⟨t, _, h, .refl t, hl, fun hq => ⟨hq.2, fun _ _ _ => by rw [hb, hq.1.1, hq.1.2]; rfl⟩, fun x hx => by simp [VB.ids] at hx⟩
    · exact h.elim
  · exact h.elim
theorem mtU_ok {S : St} : ∀ {u : List (Nat × Option VB)} {t : Ren} {p : Prop} {K : Ren → Prop → Prop}, Low t → mtU S u t p K → ∃ t' q, K t' q ∧ Ext t t' ∧ Low t' ∧ (q → p ∧ ∀ b vb, (b, some vb) ∈ u → (∀ t'', Ext t' t'' → Low t'' → S.look (tl t'' b) = some (vb.ren (tl t''))) ∧ Bound t' b ∧ ∀ x ∈ vb.ids, Bound t' x)
  | [], t, p, K, hl, h => ⟨t, p, h, .refl t, hl, fun hp => ⟨hp, fun b vb hb => by simp at hb⟩⟩
  | (j, none) :: u, t, p, K, hl, h => by
    obtain ⟨t', q, h1, h2, h3, h4⟩ := mtU_ok (u := u) hl (show mtU S u t p K from h)
    exact ⟨t', q, h1, h2, h3, fun hq => ⟨(h4 hq).1, fun b vb hb => (h4 hq).2 b vb (by simpa using hb)⟩⟩
  | (j, some vb) :: u, t, p, K, hl, h => by
    unfold mtU at h
    have main : ∀ b, (∀ t'', Ext t t'' → Low t'' → tl t'' j = b) → Bound t j → mtB S vb b t p (fun t p => mtU S u t p K) → ∃ t' q, K t' q ∧ Ext t t' ∧ Low t' ∧ (q → p ∧ ∀ b vb', (b, some vb') ∈ (j, some vb) :: u → (∀ t'', Ext t' t'' → Low t'' → S.look (tl t'' b) = some (vb'.ren (tl t''))) ∧ Bound t' b ∧ ∀ x ∈ vb'.ids, Bound t' x) := by
      intro b hb hj h
      obtain ⟨t1, r1, h1, h2, h3, h4, h5⟩ := mtB_ok hl h
      obtain ⟨t2, r2, g1, g2, g3, g4⟩ := mtU_ok h3 h1
      refine ⟨t2, r2, g1, h2.trans g2, g3, fun hq => ⟨(h4 (g4 hq).1).1, fun b' vb' hb' => ?_⟩⟩
      rcases List.mem_cons.1 hb' with hb' | hb'
      · cases hb'
        exact ⟨fun t'' q1 q2 => by rw [hb t'' (h2.trans (g2.trans q1)) q2]; exact (h4 (g4 hq).1).2 t'' (g2.trans q1) q2, (hj.ext h2).ext g2, fun x hx => (h5 x hx).ext g2⟩
      · exact (g4 hq).2 b' vb' hb'
    cases hj : Nat.blt j 1024 with
    | true =>
      rw [hj] at h
      rw [Nat.blt_eq] at hj
      exact main j (fun t'' _ q2 => q2.tl hj) (.inl hj) h
    | false =>
      rw [hj] at h
      simp only [cond_false] at h
      split at h
      · rename_i b hb
        exact main b (fun t'' q1 _ => q1.tl hb) (.inr ⟨b, hb⟩) h
      · exact h.elim

theorem imgs_inj {t : Ren} : ∀ {u : List (Nat × Option VB)} {b b' : Nat} {v v' : VB}, (imgs t u).Nodup → (b, some v) ∈ u → (b', some v') ∈ u → tl t b = tl t b' → b = b'
  | [], b, b', v, v', _, h, _, _ => by simp at h
  | (j, none) :: u, b, b', v, v', hn, h, h', e => imgs_inj (u := u) hn (by simpa using h) (by simpa using h') e
  | (j, some w) :: u, b, b', v, v', hn, h, h', e => by
    have mem : ∀ {x : Nat} {y : VB} {l : List (Nat × Option VB)}, (x, some y) ∈ l → tl t x ∈ imgs t l := by
      intro x y l
      induction l with
      | nil => intro h; simp at h
      | cons p l ih =>
        intro h
        obtain ⟨q, o⟩ := p
        cases o with
        | none => exact ih (by simpa using h)
        | some o =>
          rcases List.mem_cons.1 h with h | h
          · cases h; simp [imgs]
          · simp only [imgs, List.mem_cons]; exact .inr (ih h)
    simp only [imgs, List.nodup_cons] at hn
    rcases List.mem_cons.1 h with h | h <;> rcases List.mem_cons.1 h' with h' | h'
    · cases h; cases h'; rfl
    · cases h; exact absurd (e ▸ mem h') hn.1
    · cases h'; exact absurd (e ▸ mem h) hn.1
    · exact imgs_inj hn.2 h h' e

/-- The blocks at the end, in the contract's numbers. -/
theorem end_refit {S : St} {H0 : VH} {hp : List (Nat × Option VB)} {u : List (Nat × Option VB)} {t : Ren} (hH : H0 = lookH hp) (hlow : ∀ b, UsedIn H0 b → b < 1024) (hhp : ∃ r, S.hp = r ++ hp) (hl : Low t)
    (hu : ∀ b vb, (b, some vb) ∈ u → S.look (tl t b) = some (vb.ren (tl t)) ∧ Bound t b) (hok : okEnd u t S hp.length = true) : Refit S.look H0 1024 u (tl t) := by
  unfold okEnd at hok
  rw [keysOf_eq, keysOf_eq, List.all_map] at hok
  simp only [Bool.and_eq_true] at hok
  obtain ⟨h1, h2, h3⟩ := hok
  have h1 := nodupN_ok h1
  have h2 : ∀ p ∈ t, 1024 ≤ p.2 ∨ p.2 ∈ u.map (·.1) := fun p hp => by have := (List.all_eq_true.1 h2) p hp; simpa [memN_iff] using this
  obtain ⟨r, hr⟩ := hhp
  have htake : S.hp.take (lenN S.hp - hp.length) = r := by
    rw [lenN_eq, hr, List.length_append, Nat.add_sub_cancel]
    exact List.take_left
  rw [htake] at h3
  have h3 : ∀ p ∈ r, 1024 ≤ p.1 ∨ p.1 ∈ u.map (·.1) := fun p hp => by have := (List.all_eq_true.1 h3) p hp; simpa [memN_iff, Function.comp] using this
  have keyed : ∀ {b}, lkN u b = none → b ∉ u.map (·.1) := fun {b} h hb => by
    obtain ⟨p, hp, e⟩ := List.mem_map.1 hb
    exact lkN_none.1 h p hp e
  refine ⟨hlow, fun b hb => hl.tl hb, fun b vb h => (hu b vb (lkN_some h)).1, fun b hb h _ => ?_, fun b b' vb vb' h h' e => imgs_inj h1 (lkN_some h) (lkN_some h') e, fun b vb b' h h' hlt _ e => ?_⟩
  · show lookH S.hp b = H0 b
    rw [hr, lookH_append, hH]
    unfold upd
    have : lkN r b = none := lkN_none.2 fun p hp e => by
      rcases h3 p hp with h4 | h4
      · omega
      · exact keyed h (e ▸ h4)
    rw [this]
  · rcases (hu b vb (lkN_some h)).2 with hb | ⟨c, hc⟩
    · rw [hl.tl hb] at e
      subst e
      rw [h] at h'; cases h'
    · have e1 : tl t b = c := by unfold tl; rw [hc]
      rw [e1] at e
      subst e
      rcases h2 _ (lkN_some hc) with h4 | h4
      · simp only at h4; omega
      · exact keyed h' h4

theorem unpack_V {m : Nat → Place} {s : SV} {ss : List SV} {vs : Array Value} (hl : (unpack ss s).length = ss.length) (h : Vs m (unpack ss s) vs.toList) (hlen : ss.length = vs.size) : V m s (packV vs) := by
  unfold unpack at h hl
  unfold packV
  split at h
  · rename_i x
    simp only [List.length_singleton] at hlen
    rw [dif_pos hlen.symm]
    cases vs with
    | mk l =>
    match l, hlen with
    | [v], _ => cases h with | cons _ _ _ _ h _ => exact h
  · rename_i hne
    have hns : ¬ vs.size = 1 := by
      intro e
      rw [e] at hlen
      match ss, hlen, hne with
      | [x], _, hne => exact hne x rfl
    rw [dif_neg hns]
    split at h
    · exact .tup _ _ h
    · rename_i hne2 _ hsp
      simp only [List.length_singleton] at hl
      match ss, hl, hne with
      | [x], _, hne => exact absurd rfl (hne x)
end Go.Proofs.Ytncdakkigkmfjaa.Sx
