import Derived.Test.YthbmllekbbfobaaSxZ
import Derived.LoopN
import Derived.LoopNIn
/-! Loops, and code. -/
namespace Go.Proofs.Ythbmllekbbfobaa.Sx
open Go
set_option linter.unusedVariables false
set_option linter.unusedSimpArgs false

variable {P : Program} {T : TT} {Γ : List (Nat × GC)} {A : Anns} {E : Env}

theorem Ext.left (t t' : Ren) : Ext t (t ++ t') := by
  intro j c h
  rw [lkN_append, h]
theorem Ext.right {t t' : Ren} {n : Nat} (h : ∀ p ∈ t, p.1 < n) (h' : ∀ p ∈ t', n ≤ p.1) : Ext t' (t ++ t') := by
  intro j c e
  have : lkN t j = none := lkN_none.2 fun p hp e' => by
    have h1 := h p hp
    have h2 := h' _ (lkN_some e)
    simp only at h2; omega
  rw [lkN_append, this, e]

/-- What is told of a state, from number n on up to n'. -/
structure Tell (S : St) (n0 n n' : Nat) (X : List (Nat × SV)) (B : List (Nat × Option VB)) (olds : List Nat) (t : Ren) : Prop where
  keys : ∀ p ∈ t, n ≤ p.1 ∧ p.1 < n'
  slot : ∀ t', Ext t t' → (∀ b, b < n0 → tl t' b = b) → ∀ d sv, (d, sv) ∈ X → S.get d = sv.ren (tl t')
  blk : ∀ t', Ext t t' → (∀ b, b < n0 → tl t' b = b) → ∀ b vb, (b, vb) ∈ B → ∃ v, vb = some v ∧ S.look (tl t' b) = some (v.ren (tl t'))
  src : ∀ b vb, (b, vb) ∈ B → (∃ c, lkN t b = some c) ∨ b ∈ olds
  idT : ∀ d sv, (d, sv) ∈ X → ∀ b ∈ sv.ids, b < n0 ∨ ∃ c, lkN t b = some c
  idB : ∀ b v, (b, some v) ∈ B → ∀ x ∈ v.ids, x < n0 ∨ ∃ c, lkN t x = some c

theorem Tell.nil (S : St) (n0 n : Nat) : Tell S n0 n n [] [] [] [] :=
  ⟨fun p hp => by simp at hp, fun _ _ _ d sv h => by simp at h, fun _ _ _ b vb h => by simp at h, fun b vb h => by simp at h, fun d sv h => by simp at h, fun b v h => by simp at h⟩
theorem Tell.append {S : St} {n0 n n1 n2 : Nat} {X1 X2 : List (Nat × SV)} {B1 B2 : List (Nat × Option VB)} {o1 o2 : List Nat} {t1 t2 : Ren} (h1 : n ≤ n1) (h2 : n1 ≤ n2) (h : Tell S n0 n n1 X1 B1 o1 t1) (k : Tell S n0 n1 n2 X2 B2 o2 t2) :
    Tell S n0 n n2 (X1 ++ X2) (B1 ++ B2) (o1 ++ o2) (t1 ++ t2) := by
  have e1 : Ext t1 (t1 ++ t2) := .left _ _
  have e2 : Ext t2 (t1 ++ t2) := .right (n := n1) (fun p hp => (h.keys p hp).2) (fun p hp => (k.keys p hp).1)
  refine ⟨?_, ?_, ?_, ?_, ?_, ?_⟩
  · intro p hp
    rcases List.mem_append.1 hp with hp | hp
    · have := h.keys p hp; omega
    · have := k.keys p hp; omega
  · intro t' ht hl d sv hd
    rcases List.mem_append.1 hd with hd | hd
    · exact h.slot t' (e1.trans ht) hl d sv hd
    · exact k.slot t' (e2.trans ht) hl d sv hd
  · intro t' ht hl d sv hd
    rcases List.mem_append.1 hd with hd | hd
    · exact h.blk t' (e1.trans ht) hl d sv hd
    · exact k.blk t' (e2.trans ht) hl d sv hd
  · intro b vb hb
    rcases List.mem_append.1 hb with hb | hb
    · rcases h.src b vb hb with ⟨c, hc⟩ | hc
      · exact .inl ⟨c, e1 _ _ hc⟩
      · exact .inr (List.mem_append_left _ hc)
    · rcases k.src b vb hb with ⟨c, hc⟩ | hc
      · exact .inl ⟨c, e2 _ _ hc⟩
      · exact .inr (List.mem_append_right _ hc)
  · intro d sv hd b hb
    rcases List.mem_append.1 hd with hd | hd
    · exact (h.idT d sv hd b hb).imp id fun ⟨c, hc⟩ => ⟨c, e1 _ _ hc⟩
    · exact (k.idT d sv hd b hb).imp id fun ⟨c, hc⟩ => ⟨c, e2 _ _ hc⟩
  · intro d sv hd b hb
    rcases List.mem_append.1 hd with hd | hd
    · exact (h.idB d sv hd b hb).imp id fun ⟨c, hc⟩ => ⟨c, e1 _ _ hc⟩
    · exact (k.idB d sv hd b hb).imp id fun ⟨c, hc⟩ => ⟨c, e2 _ _ hc⟩

theorem rdRow_ok {S : St} {c : Nat} {own : Bool} {k : RK} {K : List (El k) → Prop} (h : rdRow S c own k K) : ∃ xs, K xs ∧ S.look c = some (.row own k xs) := by
  unfold rdRow at h
  split at h
  · rename_i own' k' xs' hc
    split at h
    · rename_i ys hk
      obtain ⟨rfl, e⟩ := castK_some hk
      obtain ⟨rfl, h⟩ := h
      simp only at e
      subst e
      exact ⟨_, h, hc⟩
    · exact h.elim
  · exact h.elim

/-- One part of a block. -/
structure Cell1 (S : St) (n0 n : Nat) (cs svs : List SV) (B : List (Nat × Option VB)) (t : Ren) : Prop where
  keys : ∀ p ∈ t, p.1 = n
  eq : ∀ t', Ext t t' → (∀ b, b < n0 → tl t' b = b) → cs = renL (tl t') svs
  blk : ∀ t', Ext t t' → ∀ b vb, (b, vb) ∈ B → ∃ o k xs, vb = some (.row o k xs) ∧ S.look (tl t' b) = some (.row o k xs)
  src : ∀ b vb, (b, vb) ∈ B → ∃ c, lkN t b = some c
  ids : ∀ b ∈ idsL svs, b < n0 ∨ ∃ c, lkN t b = some c
theorem Cell1.plain (S : St) (n0 n : Nat) {svs : List SV} (h : ∀ f, renL f svs = svs) (hi : idsL svs = []) : Cell1 S n0 n svs svs [] [] :=
  ⟨fun p hp => by simp at hp, fun _ _ _ => (h _).symm, fun _ _ b vb h => by simp at h, fun b vb h => by simp at h, fun b hb => by rw [hi] at hb; simp at hb⟩
theorem plain_one (x : Value) (f : Nat → Nat) : renL f [.val x] = [.val x] := rfl
theorem plainCells_ok : ∀ {n : Nat} {l : List SV} {K : List CS → List SV → Prop}, plainCells n l K → ∃ a r, K a r ∧ l = plainSV a ++ r ∧ (∀ f, renL f (plainSV a) = plainSV a) ∧ idsL (plainSV a) = [] ∧ ∀ e ∈ a, ∃ x, e = .v x
  | 0, l, K, h => ⟨[], l, h, rfl, fun _ => rfl, rfl, fun e he => by simp at he⟩
  | n + 1, [], K, h => h.elim
  | n + 1, x :: l, K, h => by
    cases x with
    | val v =>
      obtain ⟨a, r, h1, h2, h3, h4, h5⟩ := plainCells_ok (n := n) (l := l) h
      refine ⟨.v v :: a, r, h1, by simp [plainSV, h2], fun f => by simp [plainSV, renL, SV.ren, h3], by simp [plainSV, idsL, SV.ids, h4], fun e he => ?_⟩
      rcases List.mem_cons.1 he with rfl | he
      · exact ⟨v, rfl⟩
      · exact h5 e he
    | _ => exact h.elim
theorem dec_plain {k : RK} {a : List CS} {x : El k} (hf : flatK k = true) (ha : ∀ e ∈ a, ∃ v, e = CS.v v) (h : dec k a = some x) : enc k x = a := by
  unfold dec at h
  split at h
  all_goals first
    | (obtain rfl := Option.some.inj h; rfl)
    | (simp [flatK, enc, zK] at hf; done)
    | (cases h; done)
theorem rdSh1_ok {S : St} {n0 n : Nat} {sh : Sh} {cs : List SV} {K : Dsh sh → Ren → List SV → Prop} (hid : ∀ b ∈ shIds [sh], b < n0) (h : rdSh1 S n sh cs K) : ∃ x t r c, K x t r ∧ cs = c ++ r ∧ Cell1 S n0 n c (shT1 n sh x) (shB1 n sh x) t := by
  unfold rdSh1 at h
  split at h
  · split at h
    · rename_i e; subst e; exact ⟨_, _, _, [_], h, rfl, .plain _ _ _ (plain_one _) rfl⟩
    · exact h.elim
  · exact ⟨_, _, _, [_], h, rfl, .plain _ _ _ (plain_one _) rfl⟩
  · exact ⟨_, _, _, [_], h, rfl, .plain _ _ _ (plain_one _) rfl⟩
  · rename_i own k c l K
    obtain ⟨xs, h1, h2⟩ := rdRow_ok h
    have hc : lkN [(n, c)] n = some c := by simp [lkN]
    refine ⟨xs, _, _, [_], h1, rfl, fun p hp => by simp at hp; rw [hp], fun t' ht _ => ?_, fun t' ht b vb hb => ?_, fun b vb hb => ?_, fun b hb => ?_⟩
    · show _ = [SV.slF (tl t' n)]
      rw [ht.tl hc]
    · simp only [shB1, List.mem_singleton, Prod.mk.injEq] at hb
      obtain ⟨rfl, rfl⟩ := hb
      exact ⟨own, k, xs, rfl, by rw [ht.tl hc]; exact h2⟩
    · simp only [shB1, List.mem_singleton, Prod.mk.injEq] at hb
      obtain ⟨rfl, rfl⟩ := hb
      exact ⟨c, hc⟩
    · simp only [shT1, idsL, SV.ids, List.append_nil, List.mem_singleton] at hb
      subst hb
      exact .inr ⟨c, hc⟩
  · rename_i k K
    cases e : flatK k with
    | false => rw [e] at h; exact h.elim
    | true =>
      rw [e] at h
      obtain ⟨a, r, h1, h2, h3, h4, h5⟩ := plainCells_ok h
      split at h1
      · rename_i x hx
        refine ⟨x, _, r, plainSV a, h1, h2, ?_⟩
        show Cell1 S n0 n (plainSV a) (plainSV (enc k x)) [] []
        rw [dec_plain e h5 hx]
        exact .plain _ _ _ h3 h4
      · exact h1.elim
  · obtain ⟨rfl, h⟩ := h
    rename_i v l K
    have hid' : ∀ b ∈ v.ids, b < n0 := fun b hb => hid b (by simp [shIds, hb])
    exact ⟨(), _, _, [v], h, rfl, fun p hp => by simp at hp, fun t' _ hl => by simp only [shT1, renL]; rw [ren_id v fun b hb => hl b (hid' b hb)], fun _ _ b vb hb => by simp [shB1] at hb, fun b vb hb => by simp [shB1] at hb, fun b hb => .inl (hid' b (by simpa [shT1, idsL] using hb))⟩
  · exact h.elim

/-- The cells of a block. -/
structure CellsOk (S : St) (n0 n n' : Nat) (cs svs : List SV) (B : List (Nat × Option VB)) (t : Ren) : Prop where
  keys : ∀ p ∈ t, n ≤ p.1 ∧ p.1 < n'
  eq : ∀ t', Ext t t' → (∀ b, b < n0 → tl t' b = b) → cs = renL (tl t') svs
  blk : ∀ t', Ext t t' → ∀ b vb, (b, vb) ∈ B → ∃ o k xs, vb = some (.row o k xs) ∧ S.look (tl t' b) = some (.row o k xs)
  src : ∀ b vb, (b, vb) ∈ B → ∃ c, lkN t b = some c
  ids : ∀ b ∈ idsL svs, b < n0 ∨ ∃ c, lkN t b = some c
theorem renL_append (f : Nat → Nat) : ∀ l r : List SV, renL f (l ++ r) = renL f l ++ renL f r
  | [], r => rfl
  | x :: l, r => by simp [renL, renL_append f l r]
theorem rdSh_ok {S : St} {n0 : Nat} : ∀ {l : List Sh} {n : Nat} {cs : List SV} {K : Dshs l → Ren → Prop}, (∀ b ∈ shIds l, b < n0) → rdSh S l n cs K → ∃ x t, K x t ∧ CellsOk S n0 n (n + l.length) cs (shT l n x) (shB l n x) t
  | [], n, cs, K, _, h => by
    have h : rdNil cs K := h
    unfold rdNil at h
    split at h
    · exact ⟨(), [], h, fun p hp => by simp at hp, fun _ _ _ => rfl, fun _ _ b vb hb => by simp [shB] at hb, fun b vb hb => by simp [shB] at hb, fun b hb => by simp [shT, idsL] at hb⟩
    · exact h.elim
  | sh :: l, n, cs, K, hid, h => by
    have h : rdCons (rdSh1 S n sh) (rdSh S l (n + 1)) cs K := h
    have hid1 : ∀ b ∈ shIds [sh], b < n0 := fun b hb => hid b (by cases sh <;> simp_all [shIds])
    have hid2 : ∀ b ∈ shIds l, b < n0 := fun b hb => hid b (by cases sh <;> simp_all [shIds])
    unfold rdCons at h
    obtain ⟨x, t1, r, c, h1, rfl, k1⟩ := rdSh1_ok hid1 h
    obtain ⟨y, t2, h2, k2⟩ := rdSh_ok hid2 h1
    have e1 : Ext t1 (t1 ++ t2) := .left _ _
    have e2 : Ext t2 (t1 ++ t2) := .right (n := n + 1) (fun p hp => by rw [k1.keys p hp]; omega) (fun p hp => (k2.keys p hp).1)
    refine ⟨(x, y), t1 ++ t2, h2, ?_, ?_, ?_, ?_, ?_⟩
    · intro p hp
      simp only [List.length_cons]
      rcases List.mem_append.1 hp with hp | hp
      · rw [k1.keys p hp]; omega
      · have := k2.keys p hp; omega
    · intro t' ht hl
      simp only [shT]
      rw [renL_append, ← k1.eq t' (e1.trans ht) hl, ← k2.eq t' (e2.trans ht) hl]
    · intro t' ht b vb hb
      simp only [shB, List.mem_append] at hb
      rcases hb with hb | hb
      · exact k1.blk t' (e1.trans ht) b vb hb
      · exact k2.blk t' (e2.trans ht) b vb hb
    · intro b vb hb
      simp only [shB, List.mem_append] at hb
      rcases hb with hb | hb
      · obtain ⟨c, hc⟩ := k1.src b vb hb; exact ⟨c, e1 _ _ hc⟩
      · obtain ⟨c, hc⟩ := k2.src b vb hb; exact ⟨c, e2 _ _ hc⟩
    · intro b hb
      simp only [shT, idsL_append, List.mem_append] at hb
      rcases hb with hb | hb
      · exact (k1.ids b hb).imp id fun ⟨c, hc⟩ => ⟨c, e1 _ _ hc⟩
      · exact (k2.ids b hb).imp id fun ⟨c, hc⟩ => ⟨c, e2 _ _ hc⟩

theorem one_of {cs c r : List SV} {v : SV} {f : Nat → Nat} {sv : SV} (h : cs = c ++ r) (hcs : cs = [v]) (hc : c = renL f [sv]) : v = sv.ren f := by
  rw [hc] at h
  rw [hcs] at h
  simp only [renL, List.singleton_append, List.cons.injEq] at h
  exact h.1
theorem Cell1.tell {S : St} {n0 n d : Nat} {sv : SV} {B : List (Nat × Option VB)} {t : Ren} {c r : List SV} (hc : [S.get d] = c ++ r) (h : Cell1 S n0 n c [sv] B t) : Tell S n0 n (n + 32) [(d, sv)] B [] t := by
  refine ⟨fun p hp => by rw [h.keys p hp]; omega, fun t' ht hl d' sv' hd => ?_, fun t' ht hl b vb hb => ?_, fun b vb hb => .inl (h.src b vb hb), fun d' sv' hd => ?_, fun b v hb x hx => ?_⟩
  · simp only [List.mem_singleton, Prod.mk.injEq] at hd
    obtain ⟨rfl, rfl⟩ := hd
    exact one_of hc rfl (h.eq t' ht hl)
  · obtain ⟨o, k, xs, h1, h2⟩ := h.blk t' ht b vb hb
    exact ⟨_, h1, h2⟩
  · simp only [List.mem_singleton, Prod.mk.injEq] at hd
    obtain ⟨rfl, rfl⟩ := hd
    intro b hb
    exact h.ids b (by simpa [idsL] using hb)
  · obtain ⟨o, k, xs, h1, h2⟩ := h.blk t (.refl t) b _ hb
    obtain rfl := Option.some.inj h1
    simp [VB.ids] at hx
theorem rdCar_ok {S : St} {n0 n : Nat} {c : Car} {K : D c → Ren → Prop} (hn : n0 ≤ n) (hlen : carLen c < 31) (hid : ∀ b ∈ carIds c, b < n0) (h : rdCar S n c K) : ∃ x t, K x t ∧ Tell S n0 n (n + 32) (carT n c x) (carB n c x) (carOld c) t := by
  unfold rdCar at h
  split at h
  · obtain ⟨x, t, r, c, h1, hc, h2⟩ := rdSh1_ok (n0 := n0) (by simp [shIds]) h; exact ⟨x, t, h1, h2.tell hc⟩
  · obtain ⟨x, t, r, c, h1, hc, h2⟩ := rdSh1_ok (n0 := n0) (by simp [shIds]) h; exact ⟨x, t, h1, h2.tell hc⟩
  · obtain ⟨x, t, r, c, h1, hc, h2⟩ := rdSh1_ok (n0 := n0) (by simp [shIds]) h; exact ⟨x, t, h1, h2.tell hc⟩
  · obtain ⟨x, t, r, c, h1, hc, h2⟩ := rdSh1_ok (n0 := n0) (by simp [shIds]) h; exact ⟨x, t, h1, h2.tell hc⟩
  · rename_i d sh K
    split at h
    · rename_i c hd
      split at h
      · rename_i cs hc
        obtain ⟨x, t, h1, k1⟩ := rdSh_ok hid h
        have hcn : lkN ((n, c) :: t) n = some c := by simp [lkN]
        have e1 : Ext t ((n, c) :: t) := .cons (lkN_none.2 fun p hp e => by have := k1.keys p hp; omega)
        simp only [carLen, lenN_eq] at hlen
        refine ⟨x, _, h1, ?_, ?_, ?_, ?_, ?_, ?_⟩
        · intro p hp
          rcases List.mem_cons.1 hp with rfl | hp
          · simp
          · have := k1.keys p hp; omega
        · intro t' ht hl d' sv hd'
          simp only [carT, List.mem_singleton, Prod.mk.injEq] at hd'
          obtain ⟨rfl, rfl⟩ := hd'
          rw [hd]
          show _ = SV.ptr (tl t' n) 0
          rw [ht.tl hcn]
        · intro t' ht hl b vb hb
          rcases List.mem_cons.1 hb with hb | hb
          · cases hb
            refine ⟨_, rfl, ?_⟩
            rw [ht.tl hcn, hc, k1.eq t' (e1.trans ht) hl]
            rfl
          · obtain ⟨o, k, xs, g1, g2⟩ := k1.blk t' (e1.trans ht) b vb hb
            exact ⟨_, g1, g2⟩
        · intro b vb hb
          rcases List.mem_cons.1 hb with hb | hb
          · cases hb; exact .inl ⟨c, hcn⟩
          · obtain ⟨c', hc'⟩ := k1.src b vb hb; exact .inl ⟨c', e1 _ _ hc'⟩
        · intro d' sv hd' b hb
          simp only [carT, List.mem_singleton, Prod.mk.injEq] at hd'
          obtain ⟨rfl, rfl⟩ := hd'
          simp only [SV.ids, List.mem_singleton] at hb
          subst hb
          exact .inr ⟨c, hcn⟩
        · intro b v hb y hy
          rcases List.mem_cons.1 hb with hb | hb
          · cases hb
            exact (k1.ids y hy).imp id fun ⟨c', hc'⟩ => ⟨c', e1 _ _ hc'⟩
          · obtain ⟨o, k, xs, g1, g2⟩ := k1.blk t (.refl t) b _ hb
            obtain rfl := Option.some.inj g1
            simp [VB.ids] at hy
      · exact h.elim
    · exact h.elim
  · rename_i d k K
    split at h
    · rename_i c hd
      obtain ⟨xs, h1, h2⟩ := rdRow_ok h
      have hcn : lkN [(n, c)] n = some c := by simp [lkN]
      refine ⟨xs, _, h1, ?_, ?_, ?_, ?_, ?_, ?_⟩
      · intro p hp; simp at hp; subst hp; simp
      · intro t' ht hl d' sv hd'
        simp only [carT, List.mem_singleton, Prod.mk.injEq] at hd'
        obtain ⟨rfl, rfl⟩ := hd'
        rw [hd]
        show _ = SV.ptr (tl t' n) 0
        rw [ht.tl hcn]
      · intro t' ht hl b vb hb
        simp only [carB, List.mem_singleton, Prod.mk.injEq] at hb
        obtain ⟨rfl, rfl⟩ := hb
        exact ⟨_, rfl, by rw [ht.tl hcn]; exact h2⟩
      · intro b vb hb
        simp only [carB, List.mem_singleton, Prod.mk.injEq] at hb
        obtain ⟨rfl, rfl⟩ := hb
        exact .inl ⟨c, hcn⟩
      · intro d' sv hd' b hb
        simp only [carT, List.mem_singleton, Prod.mk.injEq] at hd'
        obtain ⟨rfl, rfl⟩ := hd'
        simp only [SV.ids, List.mem_singleton] at hb
        subst hb
        exact .inr ⟨c, hcn⟩
      · intro b v hb y hy
        simp only [carB, List.mem_singleton, Prod.mk.injEq, Option.some.injEq] at hb
        obtain ⟨rfl, rfl⟩ := hb
        simp [VB.ids] at hy
    · exact h.elim
  · rename_i b sh K
    split at h
    · rename_i cs hc
      have hb0 : b < n0 := hid b (by simp [carIds])
      obtain ⟨x, t, h1, k1⟩ := rdSh_ok (fun b hb => hid b (by simp [carIds, hb])) h
      simp only [carLen, lenN_eq] at hlen
      refine ⟨x, _, h1, ?_, ?_, ?_, ?_, ?_, ?_⟩
      · intro p hp
        have := k1.keys p hp; omega
      · intro t' ht hl d' sv hd'
        simp [carT] at hd'
      · intro t' ht hl b' vb hb
        rcases List.mem_cons.1 hb with hb | hb
        · cases hb
          refine ⟨_, rfl, ?_⟩
          rw [hl b hb0, hc, k1.eq t' ht hl]
          rfl
        · obtain ⟨o, k, xs, g1, g2⟩ := k1.blk t' ht b' vb hb
          exact ⟨_, g1, g2⟩
      · intro b' vb hb
        rcases List.mem_cons.1 hb with hb | hb
        · cases hb; exact .inr (by simp [carOld])
        · obtain ⟨c', hc'⟩ := k1.src b' vb hb; exact .inl ⟨c', hc'⟩
      · intro d' sv hd' b hb
        simp [carT] at hd'
      · intro b' v hb y hy
        rcases List.mem_cons.1 hb with hb | hb
        · cases hb
          exact k1.ids y hy
        · obtain ⟨o, k, xs, g1, g2⟩ := k1.blk t (.refl t) b' _ hb
          obtain rfl := Option.some.inj g1
          simp [VB.ids] at hy
    · exact h.elim
  · rename_i b own k K
    have hb0 : b < n0 := hid b (by simp [carIds])
    obtain ⟨xs, h1, h2⟩ := rdRow_ok h
    refine ⟨xs, _, h1, fun p hp => by simp at hp, fun _ _ _ d sv hd => by simp [carT] at hd, fun t' ht hl b' vb hb => ?_, fun b' vb hb => ?_, fun d sv hd => by simp [carT] at hd, fun b' v hb y hy => ?_⟩
    · simp only [carB, List.mem_singleton, Prod.mk.injEq] at hb
      obtain ⟨rfl, rfl⟩ := hb
      exact ⟨_, rfl, by rw [hl _ hb0]; exact h2⟩
    · simp only [carB, List.mem_singleton, Prod.mk.injEq] at hb
      obtain ⟨rfl, rfl⟩ := hb
      exact .inr (by simp [carOld])
    · simp only [carB, List.mem_singleton, Prod.mk.injEq, Option.some.injEq] at hb
      obtain ⟨rfl, rfl⟩ := hb
      simp [VB.ids] at hy
  · rename_i d v K
    obtain ⟨h1, h2⟩ := h
    refine ⟨(), _, h2, fun p hp => by simp at hp, fun t' ht hl d' sv hd => ?_, fun _ _ _ b vb hb => by simp [carB] at hb, fun b vb hb => by simp [carB] at hb, fun d' sv hd b hb => ?_, fun b' v hb y hy => by simp [carB] at hb⟩
    · simp only [carT, List.mem_singleton, Prod.mk.injEq] at hd
      obtain ⟨rfl, rfl⟩ := hd
      rw [h1, ren_id sv fun b hb => hl b (hid b hb)]
    · simp only [carT, List.mem_singleton, Prod.mk.injEq] at hd
      obtain ⟨rfl, rfl⟩ := hd
      exact .inl (hid b hb)
  · rename_i d b K
    split at h
    · rename_i c i q hg
      rw [beqN] at h
      by_cases e : c = b
      · subst e
        rw [decide_eq_true rfl] at h
        refine ⟨(i, q), _, h, fun p hp => by simp at hp, fun t' ht hl d' sv hd => ?_, fun _ _ _ b vb hb => by simp [carB] at hb, fun b vb hb => by simp [carB] at hb, fun d' sv hd b hb => ?_, fun b' v hb y hy => by simp [carB] at hb⟩
        · simp only [carT, List.mem_singleton, Prod.mk.injEq] at hd
          obtain ⟨rfl, rfl⟩ := hd
          rw [hg, ren_id _ fun b hb => hl b (hid b (by simpa [carIds, SV.ids] using hb))]
        · simp only [carT, List.mem_singleton, Prod.mk.injEq] at hd
          obtain ⟨rfl, rfl⟩ := hd
          exact .inl (hid b (by simpa [carIds, SV.ids] using hb))
      · rw [decide_eq_false e] at h; exact h.elim
    · exact h.elim
theorem rdCars_ok {S : St} {n0 : Nat} : ∀ {l : List Car} {n : Nat} {K : Ds l → Ren → Prop}, n0 ≤ n → (∀ c ∈ l, carLen c < 31) → (∀ b ∈ l.flatMap carIds, b < n0) → rdCars S l n K → ∃ x t, K x t ∧ Tell S n0 n (n + l.length * 32) (carsT l n x) (carsB l n x) (l.flatMap carOld) t
  | [], n, K, _, _, _, h => ⟨(), [], h, Tell.nil S n0 n⟩
  | c :: l, n, K, hn, hlen, hid, h => by
    have h : rdCar S n c fun x t => rdCars S l (n + 32) fun y t' => K (x, y) (t ++ t') := h
    obtain ⟨x, t1, h1, k1⟩ := rdCar_ok hn (hlen c (by simp)) (fun b hb => hid b (by simp [hb])) h
    obtain ⟨y, t2, h2, k2⟩ := rdCars_ok (n := n + 32) (Nat.le_trans hn (by omega)) (fun c hc => hlen c (by simp [hc])) (fun b hb => hid b (by simp only [List.flatMap_cons, List.mem_append]; exact .inr hb)) h1
    refine ⟨(x, y), _, h2, ?_⟩
    have := k1.append (by omega) (by omega) k2
    rw [show n + 32 + l.length * 32 = n + (c :: l).length * 32 by simp; omega] at this
    exact this

theorem some_of {S : St} {n0 n n' : Nat} {X : List (Nat × SV)} {B : List (Nat × Option VB)} {olds : List Nat} {t : Ren} (h : Tell S n0 n n' X B olds t) (hl : ∀ b, b < n0 → tl t b = b) {b : Nat} {v : Option VB} (hb : lkN B b = some v) : ∃ vb, v = some vb ∧ S.look (tl t b) = some (vb.ren (tl t)) ∧ ((∃ c, lkN t b = some c) ∨ b ∈ olds) ∧ ∀ x ∈ vb.ids, x < n0 ∨ ∃ c, lkN t x = some c := by
  obtain ⟨vb, h1, h2⟩ := h.blk t (.refl t) hl b v (lkN_some hb)
  subst h1
  exact ⟨vb, rfl, h2, h.src b _ (lkN_some hb), h.idB b vb (lkN_some hb)⟩

/-- The state, as a loop's head tells it. -/
theorem rehead {cs : List Car} {S S1 : St} {ds tk : List Nat} {x : Ds cs} {t : Ren} {m : Nat → Place} {Imm : Nat → Prop} {a : Act} {w : World} (hlow : ∀ b, Used S.get S.look b → b < S.next) (hlow0 : E.low ≤ S.next) (hI : Inv E S1 m Imm a w)
    (hcs : okCars cs ds S.next = true) (ht : okRen cs S.next tk t = true) (hT : Tell S1 S.next S.next (S.next + cs.length * 32) (carsT cs S.next x) (carsB cs S.next x) (cs.flatMap carOld) t)
    (hget : ∀ d, d ∉ ds → S1.get d = S.get d) (hlook : ∀ b, b < S.next → b ∉ cs.flatMap carOld → b ∉ tk → S1.look b = S.look b) : ∃ m', Inv E (head cs S ds tk x) m' Imm a w := by
  unfold okCars at hcs
  simp only [Bool.and_eq_true] at hcs
  obtain ⟨hs1, hs2, hs3, hs4, _, hs6⟩ := hcs
  have hs1 := nodupN_ok hs1
  have hs3 : ∀ b ∈ cs.flatMap carIds, b < S.next := fun b hb => by have := (List.all_eq_true.1 hs3) b hb; rwa [Nat.blt_eq] at this
  have hs4 := subN_ok hs4
  rw [Nat.blt_eq, lenN_eq] at hs6
  unfold okRen at ht
  simp only [Bool.and_eq_true, Bool.not_eq_true'] at ht
  obtain ⟨ht1, ht2, ht3⟩ := ht
  have ht1 := nodupN_ok ht1
  have ht2 := meets_no ht2
  have ht3 : ∀ p ∈ t, S.next ≤ p.2 ∨ p.2 ∈ tk := fun p hp => by have := (List.all_eq_true.1 ht3) p hp; simpa [memN_iff] using this
  have low : ∀ b, b < S.next → tl t b = b := fun b hb => by
    unfold tl
    have : lkN t b = none := lkN_none.2 fun p hp e => by have := (hT.keys p hp).1; omega
    rw [this]
  have olds : ∀ b ∈ cs.flatMap carOld, b < S.next := fun b hb => hs3 b (by
    obtain ⟨c, hc, hb⟩ := List.mem_flatMap.1 hb
    refine List.mem_flatMap.2 ⟨c, hc, ?_⟩
    cases c <;> simp_all [carOld, carIds])
  have hu : ∀ b, lkN (carsB cs S.next x ++ nones tk) b = match lkN (carsB cs S.next x) b with | some v => some v | none => lkN (nones tk) b := fun b => by
    rw [lkN_append]
    cases lkN (carsB cs S.next x) b <;> rfl
  have told : ∀ b vb, lkN (carsB cs S.next x ++ nones tk) b = some (some vb) → S1.look (tl t b) = some (vb.ren (tl t)) ∧ ((∃ c, lkN t b = some c) ∨ b ∈ cs.flatMap carOld) ∧ ∀ y ∈ vb.ids, y < S.next ∨ ∃ c, lkN t y = some c := by
    intro b vb h
    rw [hu] at h
    cases e : lkN (carsB cs S.next x) b with
    | some v =>
      rw [e] at h
      obtain ⟨vb', h1, h2, h3, h4⟩ := some_of hT low e
      simp only [Option.some.injEq] at h
      rw [h] at h1
      cases h1
      exact ⟨h2, h3, h4⟩
    | none =>
      rw [e] at h
      rcases nones_lk (l := tk) (b := b) with ⟨_, h1⟩ | ⟨_, h1⟩ <;> (rw [h1] at h; cases h)
  have untold : ∀ b, lkN (carsB cs S.next x ++ nones tk) b = none → b ∉ tk := by
    intro b h hb
    rw [hu] at h
    split at h
    · cases h
    · rcases nones_lk (l := tk) (b := b) with ⟨_, h1⟩ | ⟨h1, _⟩
      · rw [h1] at h; cases h
      · exact h1 hb
  have olds_told : ∀ b ∈ cs.flatMap carOld, (lkN (carsB cs S.next x ++ nones tk) b) ≠ none := by
    intro b hb h
    rw [hu] at h
    split at h
    · cases h
    · rename_i e
      -- an older block that is carried is told
      have : ∀ (l : List Car) (n : Nat) (y : Ds l), b ∈ l.flatMap carOld → lkN (carsB l n y) b ≠ none := by
        intro l
        induction l with
        | nil => intro n y hb; simp at hb
        | cons c l ih =>
          rintro n ⟨y, y'⟩ hb
          simp only [carsB]
          rw [lkN_append]
          cases e : lkN (carB n c y) b with
          | some v => simp
          | none =>
            simp only [List.flatMap_cons, List.mem_append] at hb
            rcases hb with hb | hb
            · cases c with
              | blk b' sh =>
                simp only [carOld, List.mem_singleton] at hb
                subst hb
                simp [carB, lkN] at e
              | row b' o k =>
                simp only [carOld, List.mem_singleton] at hb
                subst hb
                simp [carB, lkN] at e
              | _ => simp [carOld] at hb
            · exact ih _ _ hb
      exact this cs _ x hb e
  have hR : Refit S1.look S.look S.next (carsB cs S.next x ++ nones tk) (tl t) := by
    refine ⟨fun b hb => hlow b (.inl hb), low, fun b vb h => (told b vb h).1, fun b hb h1 h2 => hlook b hb (fun h => olds_told b h h1) (untold b h1), ?_, ?_⟩
    · intro b b' vb vb' h h' e
      obtain ⟨_, h1, _⟩ := told b vb h
      obtain ⟨_, h1', _⟩ := told b' vb' h'
      rcases h1 with ⟨c, h1⟩ | h1 <;> rcases h1' with ⟨c', h1'⟩ | h1'
      · have e1 : tl t b = c := by unfold tl; rw [h1]
        have e2 : tl t b' = c' := by unfold tl; rw [h1']
        rw [e1, e2] at e
        subst e
        exact lkN_inj ht1 h1 h1'
      · have e1 : tl t b = c := by unfold tl; rw [h1]
        rw [e1, low b' (olds b' h1')] at e
        subst e
        exact absurd h1' (ht2 _ (lkN_snd h1))
      · have e2 : tl t b' = c' := by unfold tl; rw [h1']
        rw [e2, low b (olds b h1)] at e
        subst e
        exact absurd h1 (ht2 _ (lkN_snd h1'))
      · rw [low b (olds b h1), low b' (olds b' h1')] at e
        exact e
    · intro b vb b' h h' hlt hne e
      obtain ⟨_, h1, _⟩ := told b vb h
      rcases h1 with ⟨c, h1⟩ | h1
      · have e1 : tl t b = c := by unfold tl; rw [h1]
        rw [e1] at e
        subst e
        rcases ht3 _ (lkN_some h1) with h2 | h2
        · simp only at h2; omega
        · exact untold _ h' h2
      · rw [low b (olds b h1)] at e
        subst e
        rw [h] at h'; cases h'
  have hlk : (head cs S ds tk x).look = upd (carsB cs S.next x ++ nones tk) S.look := by
    show lookH (carsB cs S.next x ++ (nones tk ++ S.hp)) = _
    rw [← List.append_assoc, lookH_append]; rfl
  -- the slots
  have hgt : ∀ d, ((∃ sv, (head cs S ds tk x).get d = sv ∧ (d, sv) ∈ carsT cs S.next x) ∨ (d ∈ ds ∧ (head cs S ds tk x).get d = .undef)) ∨ (d ∉ ds ∧ (head cs S ds tk x).get d = S.get d) := by
    intro d
    have hg : (head cs S ds tk x).get d = match lkN (carsT cs S.next x ++ (undefs ds ++ S.tp)) d with | some v => v | none => .undef := rfl
    rw [lkN_append, lkN_append] at hg
    cases e : lkN (carsT cs S.next x) d with
    | some sv => rw [e] at hg; exact .inl (.inl ⟨sv, hg, lkN_some e⟩)
    | none =>
      rw [e] at hg
      rcases undefs_lk (l := ds) (d := d) with ⟨h1, h2⟩ | ⟨h1, h2⟩
      · rw [h2] at hg; exact .inl (.inr ⟨h1, hg⟩)
      · rw [h2] at hg; exact .inr ⟨h1, hg⟩
  refine ⟨fun b => m (tl t b), ⟨⟨by rw [hlk]; exact hR.since hI.live.since, ?_, hI.live.size, hI.live.defers, ?_⟩, ?_, Nat.le_trans hlow0 (Nat.le_add_right _ _), ?_⟩⟩
  · intro d
    have hs := hI.live.slots d
    rcases hgt d with (⟨sv, h1, h2⟩ | ⟨_, h1⟩) | ⟨h1, h2⟩
    · rw [h1]
      rw [hT.slot t (.refl t) low d sv h2] at hs
      exact V.unmap sv hs fun _ _ => rfl
    · rw [h1]; exact .undef _
    · rw [h2]
      rw [hget d h1] at hs
      exact hs.moved fun b hb => by rw [low b (hlow b (.inr ⟨d, hb⟩))]
  · intro b hb
    show m (tl t b) = E.m0 b
    rw [low b (Nat.lt_of_lt_of_le hb hlow0)]
    exact hI.live.same b hb
  · have key : ∀ b c, lkN t b = some c → b < S.next + 1024 := fun b c h => by
      have := (hT.keys _ (lkN_some h)).2
      simp only at this
      omega
    rintro b (hb | ⟨d, hb⟩)
    · show b < S.next + 1024
      rw [hlk] at hb
      have src : ∀ b vb, upd (carsB cs S.next x ++ nones tk) S.look b = some vb → b < S.next + 1024 ∧ ∀ y ∈ vb.ids, y < S.next + 1024 := by
        intro b vb h
        unfold upd at h
        cases e : lkN (carsB cs S.next x ++ nones tk) b with
        | some v =>
          rw [e] at h
          simp only at h
          subst h
          obtain ⟨_, h2, h3⟩ := told b vb e
          refine ⟨?_, fun y hy => ?_⟩
          · rcases h2 with ⟨c, h2⟩ | h2
            · exact key b c h2
            · have := olds b h2; omega
          · rcases h3 y hy with h3 | ⟨c, h3⟩
            · omega
            · exact key y c h3
        | none =>
          rw [e] at h
          simp only at h
          refine ⟨by have := hlow b (.inl (.inl (by rw [h]; simp))); omega, fun y hy => ?_⟩
          cases vb with
          | row => simp [VB.ids] at hy
          | cells l => have := hlow y (.inl (.inr ⟨b, l, h, hy⟩)); omega
      rcases hb with hb | ⟨b', l, hb, hx⟩
      · cases e : upd (carsB cs S.next x ++ nones tk) S.look b with
        | none => exact absurd e hb
        | some vb => exact (src b vb e).1
      · exact (src b' _ hb).2 b hx
    · show b < S.next + 1024
      rcases hgt d with (⟨sv, h1, h2⟩ | ⟨_, h1⟩) | ⟨h1, h2⟩
      · rw [h1] at hb
        rcases hT.idT d sv h2 b hb with h | ⟨c, h⟩
        · omega
        · exact key b c h
      · rw [h1] at hb; simp [SV.ids] at hb
      · rw [h2] at hb; have := hlow b (.inr ⟨d, hb⟩); omega
  · intro d b h
    exact absurd h (by simp [St.know, head, headN, knowT, lkN])
end Go.Proofs.Ythbmllekbbfobaa.Sx

/-! What the evaluator says of code, it does. -/
namespace Go.Proofs.Ythbmllekbbfobaa.Sx
open Go
set_option linter.unusedVariables false
set_option linter.unusedSimpArgs false

variable {P : Program} {T : TT} {Γ : List (Nat × GC)} {A : Anns} {E : Env} {rd : Option Nat}

theorem rdRow_any {S : St} {c : Nat} {own : Bool} {k : RK} {K : List (El k) → Prop} (h : rdRow S c own k K) : ∃ xs, K xs := by
  obtain ⟨xs, h1, _⟩ := rdRow_ok h; exact ⟨xs, h1⟩
theorem plainCells_any : ∀ {n : Nat} {l : List SV} {K : List CS → List SV → Prop}, plainCells n l K → ∃ a r, K a r
  | 0, l, K, h => ⟨_, _, h⟩
  | n + 1, [], K, h => h.elim
  | n + 1, x :: l, K, h => by
    cases x with
    | val v => obtain ⟨a, r, h⟩ := plainCells_any (n := n) (l := l) h; exact ⟨_, _, h⟩
    | _ => exact h.elim
theorem rdSh1_any {S : St} {n : Nat} {sh : Sh} {cs : List SV} {K : Dsh sh → Ren → List SV → Prop} (h : rdSh1 S n sh cs K) : ∃ x t r, K x t r := by
  unfold rdSh1 at h
  split at h
  · split at h
    · exact ⟨_, _, _, h⟩
    · exact h.elim
  · exact ⟨_, _, _, h⟩
  · exact ⟨_, _, _, h⟩
  · obtain ⟨xs, h1⟩ := rdRow_any h; exact ⟨_, _, _, h1⟩
  · rename_i k K
    cases e : flatK k with
    | false => rw [e] at h; exact h.elim
    | true =>
      rw [e] at h
      obtain ⟨a, r, h⟩ := plainCells_any h
      split at h
      · exact ⟨_, _, _, h⟩
      · exact h.elim
  · exact ⟨_, _, _, h.2⟩
  · exact h.elim
theorem rdSh_any {S : St} : ∀ {l : List Sh} {n : Nat} {cs : List SV} {K : Dshs l → Ren → Prop}, rdSh S l n cs K → ∃ x t, K x t
  | [], n, cs, K, h => by
    have h : rdNil cs K := h
    unfold rdNil at h
    split at h
    · exact ⟨_, _, h⟩
    · exact h.elim
  | sh :: l, n, cs, K, h => by
    have h : rdCons (rdSh1 S n sh) (rdSh S l (n + 1)) cs K := h
    unfold rdCons at h
    obtain ⟨x, t, r, h⟩ := rdSh1_any h
    obtain ⟨y, t', h⟩ := rdSh_any h
    exact ⟨_, _, h⟩
theorem rdCar_any {S : St} {n : Nat} {c : Car} {K : D c → Ren → Prop} (h : rdCar S n c K) : ∃ x t, K x t := by
  unfold rdCar at h
  split at h
  · obtain ⟨x, t, _, h⟩ := rdSh1_any h; exact ⟨_, _, h⟩
  · obtain ⟨x, t, _, h⟩ := rdSh1_any h; exact ⟨_, _, h⟩
  · obtain ⟨x, t, _, h⟩ := rdSh1_any h; exact ⟨_, _, h⟩
  · obtain ⟨x, t, _, h⟩ := rdSh1_any h; exact ⟨_, _, h⟩
  · split at h
    · split at h
      · obtain ⟨x, t, h⟩ := rdSh_any h; exact ⟨_, _, h⟩
      · exact h.elim
    · exact h.elim
  · split at h
    · obtain ⟨x, h⟩ := rdRow_any h; exact ⟨_, _, h⟩
    · exact h.elim
  · split at h
    · exact rdSh_any h
    · exact h.elim
  · obtain ⟨x, h⟩ := rdRow_any h; exact ⟨_, _, h⟩
  · exact ⟨_, _, h.2⟩
  · split at h
    · rename_i c i q hg
      cases e : Nat.beq c _ with
      | true => rw [e] at h; exact ⟨_, _, h⟩
      | false => rw [e] at h; exact h.elim
    · exact h.elim
theorem rdCars_any {S : St} : ∀ {l : List Car} {n : Nat} {K : Ds l → Ren → Prop}, rdCars S l n K → ∃ x t, K x t
  | [], n, K, h => ⟨_, _, h⟩
  | c :: l, n, K, h => by
    have h : rdCar S n c fun x t => rdCars S l (n + 32) fun y t' => K (x, y) (t ++ t') := h
    obtain ⟨x, t, h⟩ := rdCar_any h
    obtain ⟨y, t', h⟩ := rdCars_any h
    exact ⟨_, _, h⟩
theorem carT_slots {n : Nat} {c : Car} {x : D c} {d : Nat} {sv : SV} (h : (d, sv) ∈ carT n c x) : d ∈ carSlot c := by
  cases c <;> simp only [carT, List.mem_singleton, Prod.mk.injEq, List.not_mem_nil] at h <;> simp [carSlot, h.1]
theorem cars_slots {cs : List Car} {ds : List Nat} {base : Nat} (hcs : okCars cs ds base = true) {n : Nat} {x : Ds cs} : ∀ d sv, (d, sv) ∈ carsT cs n x → d ∈ ds := by
  unfold okCars at hcs
  simp only [Bool.and_eq_true] at hcs
  have hs := subN_ok hcs.2.2.2.1
  intro d sv h
  refine hs d ?_
  clear hs hcs
  induction cs generalizing n with
  | nil => simp [carsT] at h
  | cons c l ih =>
    obtain ⟨x, y⟩ := x
    simp only [carsT, List.mem_append] at h
    simp only [List.flatMap_cons, List.mem_append]
    rcases h with h | h
    · exact .inl (carT_slots h)
    · exact .inr (ih h)
theorem shB_keys : ∀ {l : List Sh} {n : Nat} {x : Dshs l}, ∀ p ∈ shB l n x, n ≤ p.1
  | [], n, x, p, h => by simp [shB] at h
  | sh :: l, n, (x, y), p, h => by
    simp only [shB, List.mem_append] at h
    rcases h with h | h
    · cases sh <;> simp only [shB1, List.mem_singleton, List.not_mem_nil] at h
      rw [h]; exact Nat.le_refl _
    · have := shB_keys p h; omega
theorem carB_keys {c : Car} {n : Nat} {x : D c} : ∀ p ∈ carB n c x, n ≤ p.1 ∨ p.1 ∈ carOld c := by
  intro p h
  cases c with
  | r d o k => simp only [carB, List.mem_singleton] at h; rw [h]; exact .inl (Nat.le_refl _)
  | p d sh =>
    rcases List.mem_cons.1 h with rfl | h
    · exact .inl (Nat.le_refl _)
    · have := shB_keys p h; exact .inl (by omega)
  | pr d k => simp only [carB, List.mem_singleton] at h; rw [h]; exact .inl (Nat.le_refl _)
  | blk b sh =>
    rcases List.mem_cons.1 h with rfl | h
    · exact .inr (by simp [carOld])
    · have := shB_keys p h; exact .inl (by omega)
  | row b o k => simp only [carB, List.mem_singleton] at h; rw [h]; exact .inr (by simp [carOld])
  | _ => simp [carB] at h
theorem cars_blocks {cs : List Car} {ds : List Nat} {base b : Nat} (_ : okCars cs ds base = true) (hb : b < base) (hn : b ∉ cs.flatMap carOld) {x : Ds cs} : lkN (carsB cs base x) b = none := by
  have : ∀ (l : List Car) (n : Nat) (x : Ds l), base ≤ n → b ∉ l.flatMap carOld → lkN (carsB l n x) b = none := by
    intro l
    induction l with
    | nil => intro n x _ _; rfl
    | cons c l ih =>
      rintro n ⟨x, y⟩ hle hnot
      simp only [List.flatMap_cons, List.mem_append, not_or] at hnot
      simp only [carsB]
      rw [lkN_append]
      have : lkN (carB n c x) b = none := lkN_none.2 fun p hp e => by
        rcases carB_keys p hp with h | h
        · omega
        · exact hnot.1 (e ▸ h)
      rw [this]
      exact ih (n + 32) y (by omega) hnot.2
  exact this cs base x (Nat.le_refl _) hn

theorem allSh_ok : ∀ {l : List Sh} {K : Dshs l → Prop}, allSh l K → ∀ x, K x
  | [], K, h, () => h
  | sh :: l, K, h, (a, y) => by
    have h : allSh1 sh fun a => allSh l fun y => K (a, y) := h
    refine allSh_ok (l := l) (K := fun y => K (a, y)) ?_ y
    cases sh with
    | fix v => exact h
    | r own k => exact allL_iff.1 h a
    | st k => exact allE_iff.1 h a
    | _ => exact h a
theorem allDs_ok : ∀ {l : List Car} {K : Ds l → Prop}, allDs l K → ∀ x, K x
  | [], K, h, () => h
  | c :: l, K, h, (a, y) => by
    have h : allCar c fun a => allDs l fun y => K (a, y) := h
    refine allDs_ok (l := l) (K := fun y => K (a, y)) ?_ y
    cases c with
    | p d sh => exact allSh_ok h a
    | blk b sh => exact allSh_ok h a
    | fx d v => exact h
    | sl d b => exact h a.1 a.2
    | r d own k => exact allL_iff.1 h a
    | pr d k => exact allL_iff.1 h a
    | row b own k => exact allL_iff.1 h a
    | _ => exact h a
theorem rdCars_ok0 {S S0 : St} {cs : List Car} {K : Ds cs → Ren → Prop} (h : rdCars S cs S0.next K) : ∃ x t, K x t ∧ ∀ {ds : List Nat}, okCars cs ds S0.next = true → Tell S S0.next S0.next (S0.next + cs.length * 32) (carsT cs S0.next x) (carsB cs S0.next x) (cs.flatMap carOld) t ∧ True := by
  by_cases hok : ∃ ds, okCars cs ds S0.next = true
  · obtain ⟨ds, hok⟩ := hok
    unfold okCars at hok
    simp only [Bool.and_eq_true] at hok
    obtain ⟨_, _, hs3, _, hs5, _⟩ := hok
    obtain ⟨x, t, h1, h2⟩ := rdCars_ok (n0 := S0.next) (Nat.le_refl _) (fun c hc => by have := (List.all_eq_true.1 hs5) c hc; rwa [Nat.blt_eq] at this) (fun b hb => by have := (List.all_eq_true.1 hs3) b hb; rwa [Nat.blt_eq] at this) h
    exact ⟨x, t, h1, fun _ => ⟨h2, trivial⟩⟩
  · obtain ⟨x, t, h1⟩ := rdCars_any h
    exact ⟨x, t, h1, fun {ds} hds => absurd ⟨ds, hds⟩ hok⟩
theorem least (p : Nat → Prop) (h : ∃ n, p n) : ∃ n, p n ∧ ∀ k, p k → n ≤ k := by
  obtain ⟨n, hn⟩ := h
  induction n using Nat.strongRecOn with
  | ind n ih =>
    by_cases e : ∃ k, p k ∧ k < n
    · obtain ⟨k, hk, hlt⟩ := e
      exact ih k hlt hk
    · refine ⟨n, hn, fun k hk => ?_⟩
      rcases Nat.lt_or_ge k n with h | h
      · exact absurd ⟨k, hk, h⟩ e
      · exact h
open Classical in
theorem wp_loop_by {X : Type} {c : Code} {Q : Exit → Act → World → Prop} (I : X → Act → World → Prop) (mu : X → Nat) (round : ∀ x a w, I x a w → c.wpIn (fr rd) 0 P (Exit.then (fun a' w' => ∃ y, I y a' w' ∧ mu y < mu x) Q) a w) {x : X} {a : Act} {w : World} (h : I x a w) :
    (Code.loop c).wpIn (fr rd) 0 P Q a w := by
  let μ : Act → World → Nat := fun a w => if h : ∃ n, ∃ x, I x a w ∧ mu x = n then (least _ h).choose else 0
  have spec : ∀ a w, (∃ x, I x a w) → (∃ x, I x a w ∧ mu x = μ a w) ∧ ∀ x, I x a w → μ a w ≤ mu x := by
    rintro a w ⟨x, hx⟩
    have h : ∃ n, ∃ x, I x a w ∧ mu x = n := ⟨_, x, hx, rfl⟩
    have e : μ a w = (least _ h).choose := by simp only [μ]; rw [dif_pos h]
    rw [e]
    have := (least _ h).choose_spec
    exact ⟨this.1, fun x hx => this.2 _ ⟨x, hx, rfl⟩⟩
  refine wpIn_loop (fun a w => ∃ x, I x a w) μ ⟨x, h⟩ ?_
  intro a w hx
  obtain ⟨⟨x, hx, e⟩, _⟩ := spec a w hx
  refine wpIn_mono (round x a w hx) ?_
  intro ex a' w' hq
  cases ex with
  | normal =>
    obtain ⟨y, hy, hlt⟩ := hq
    exact ⟨⟨y, hy⟩, Nat.lt_of_le_of_lt ((spec a' w' ⟨y, hy⟩).2 y hy) (by rw [← e]; exact hlt)⟩
  | _ => exact hq

/-- What became of a state. -/
structure After (S : St) (ds : List Nat) (S' : St) : Prop where
  hp : ∃ u, S'.hp = u ++ S.hp
  next : S.next ≤ S'.next
  get : ∀ d, d ∉ ds → S'.get d = S.get d
theorem After.refl (S : St) (ds : List Nat) : After S ds S := ⟨⟨[], rfl⟩, Nat.le_refl _, fun _ _ => rfl⟩
theorem After.trans {S S1 S2 : St} {ds ds1 ds2 : List Nat} (h : After S ds1 S1) (k : After S1 ds2 S2) (h1 : ∀ d ∈ ds1, d ∈ ds) (h2 : ∀ d ∈ ds2, d ∈ ds) : After S ds S2 := by
  obtain ⟨u, hu⟩ := h.hp
  obtain ⟨v, hv⟩ := k.hp
  exact ⟨⟨v ++ u, by rw [hv, hu, List.append_assoc]⟩, Nat.le_trans h.next k.next, fun d hd => (k.get d fun h => hd (h2 d h)).trans (h.get d fun h => hd (h1 d h))⟩
theorem After.mono {S S1 : St} {ds ds1 : List Nat} (h : After S ds1 S1) (h1 : ∀ d ∈ ds1, d ∈ ds) : After S ds S1 := ⟨h.hp, h.next, fun d hd => h.get d fun h => hd (h1 d h)⟩

def Post (E : Env) (S : St) (ds : List Nat) (K : Exit → St → Prop) (e : Exit) (a : Act) (w : World) : Prop := ∃ S' m Imm, K e S' ∧ Inv E S' m Imm a w ∧ After S ds S'

theorem fRows_any {S : St} : ∀ {l : List Nat} {K : List RowV → Prop}, fRows S l K → ∃ rs, K rs
  | [], K, h => ⟨_, h⟩
  | b :: l, K, h => by
    unfold fRows at h
    split at h
    · obtain ⟨rs, h⟩ := fRows_any h; exact ⟨_, h⟩
    · obtain ⟨rs, h⟩ := fRows_any h; exact ⟨_, h⟩
theorem norm1_ok {c : Car} {S : St} {K : St → Prop} {a : Act} {w : World} {m : Nat → Place} {Imm : Nat → Prop} (h : norm1 c S K) (hI : Inv E S m Imm a w) :
    ∃ S', K S' ∧ Inv E S' m Imm a w ∧ S'.hp = S.hp ∧ S'.next = S.next ∧ ∀ d, d ∉ carSlot c → S'.get d = S.get d := by
  have same : K S → ∃ S', K S' ∧ Inv E S' m Imm a w ∧ S'.hp = S.hp ∧ S'.next = S.next ∧ ∀ d, d ∉ carSlot c → S'.get d = S.get d := fun h => ⟨S, h, hI, rfl, rfl, fun _ _ => rfl⟩
  unfold norm1 at h
  split at h
  · rename_i d b
    split at h
    · rename_i e hg
      split at h
      · rename_i own k xs hb
        rw [beqN] at h
        by_cases he : e = b
        · subst he
          rw [decide_eq_true rfl] at h
          obtain ⟨tp, hp, n, kn⟩ := S
          have hget : ∀ x, St.get ⟨(d, .slP e 0 xs.length) :: tp, hp, n, (d, none) :: kn⟩ x = if x = d then .slP e 0 xs.length else St.get ⟨tp, hp, n, kn⟩ x := fun x => congrFun (getT_cons d (.slP e 0 xs.length) tp) x
          obtain ⟨_, p2, _⟩ := hI.live.since.rel.hold e _ hb
          refine ⟨_, h, ⟨⟨hI.live.since, ?_, hI.live.size, hI.live.defers, hI.live.same⟩, ?_, hI.low0, ?_⟩, rfl, rfl, ?_⟩
          · intro x
            rw [hget]
            by_cases hx : x = d
            · rw [if_pos hx]
              have hs := hI.live.slots d
              rw [hg] at hs
              rw [hx]
              generalize a.tmps.getD d undef = v at hs
              cases hs with
              | slF _ c h1 h2 =>
                have := V.slP (m := m) e 0 xs.length c (by omega) (by omega) (by omega) (by omega)
                rw [Nat.zero_mul, Nat.add_zero] at this
                rwa [p2]
              | slF0 _ ad h1 =>
                rw [← p2, h1]
                exact .slP0 e 0 ad (by omega)
            · rw [if_neg hx]; exact hI.live.slots x
          · rintro x (hx | ⟨d', hx⟩)
            · exact hI.low x (.inl hx)
            · rw [hget] at hx
              split at hx
              · simp only [SV.ids, List.mem_singleton] at hx
                exact hI.low x (.inr ⟨d, by rw [hg]; simpa [SV.ids] using hx⟩)
              · exact hI.low x (.inr ⟨d', hx⟩)
          · intro x v hx
            have hx : knowT ((d, none) :: kn) x = some v := hx
            rw [knowT_cons] at hx
            rw [hget]
            by_cases e : x = d
            · simp [e] at hx
            · simp only [e, if_false] at hx ⊢
              exact hI.kn x v hx
          · intro x hx
            rw [hget, if_neg (by simpa [carSlot] using hx)]
        · rw [decide_eq_false he] at h; exact same h
      · exact same h
    · exact same h
  · exact same h
theorem normK_ok : ∀ {l : List Car} {S : St} {K : St → Prop} {a : Act} {w : World} {m : Nat → Place} {Imm : Nat → Prop}, normK l S K → Inv E S m Imm a w →
    ∃ S', K S' ∧ Inv E S' m Imm a w ∧ S'.hp = S.hp ∧ S'.next = S.next ∧ ∀ d, d ∉ l.flatMap carSlot → S'.get d = S.get d
  | [], S, K, a, w, m, Imm, h, hI => ⟨S, h, hI, rfl, rfl, fun _ _ => rfl⟩
  | c :: l, S, K, a, w, m, Imm, h, hI => by
    have h : norm1 c S fun S => normK l S K := h
    obtain ⟨S1, h1, h2, h3, h4, h5⟩ := norm1_ok h hI
    obtain ⟨S2, g1, g2, g3, g4, g5⟩ := normK_ok h1 h2
    refine ⟨S2, g1, g2, g3.trans h3, g4.trans h4, fun d hd => ?_⟩
    simp only [List.flatMap_cons, List.mem_append, not_or] at hd
    exact (g5 d hd.2).trans (h5 d hd.1)
theorem cars_in {cs : List Car} {ds : List Nat} {base : Nat} (hcs : okCars cs ds base = true) : ∀ d, d ∉ ds → d ∉ cs.flatMap carSlot := by
  unfold okCars at hcs
  simp only [Bool.and_eq_true] at hcs
  have hs := subN_ok hcs.2.2.2.1
  exact fun d hd h => hd (hs d h)
/-- A walk of code in a round. -/
def Walks (P : Program) (T : TT) (Γ : List (Nat × GC)) (A : Anns) (c : Code) : Prop :=
  ∀ (E : Env) (l : Nat) (S : St) (K : Exit → St → Prop) (a : Act) (w : World) (m : Nat → Place) (Imm : Nat → Prop), run T Γ A c S K → (∀ d ∈ dsts c, d < E.wide) → Inv E S m Imm a w → c.wpIn (fr (some l)) 0 P (Post E S (dsts c) K) a w

/-- Blocks that are handed out are gone. -/
theorem drop_some {u : List (Nat × Option VB)} {H : VH} (hu : ∀ p ∈ u, p.2 = none) {b : Nat} {vb : VB} (h : upd u H b = some vb) : H b = some vb := by
  rcases upd_cases h with h | ⟨_, h⟩
  · exact absurd (hu _ h) (by simp)
  · exact h
theorem Rel.drop {u : List (Nat × Option VB)} {m : Nat → Place} {Imm : Nat → Prop} {H : VH} {w : World} (hu : ∀ p ∈ u, p.2 = none) (h : Rel m Imm H w) : Rel m Imm (upd u H) w :=
  ⟨fun b vb e => h.hold b vb (drop_some hu e), fun b b' vb vb' e e' o o' => h.dist b b' vb vb' (drop_some hu e) (drop_some hu e') o o', fun b vb e => h.apart b vb (drop_some hu e), h.imm⟩
theorem Since.drop {u : List (Nat × Option VB)} {Z I0 : Nat → Prop} {w0 : World} {m : Nat → Place} {Imm : Nat → Prop} {H : VH} {w : World} (hu : ∀ p ∈ u, p.2 = none) (h : Since Z I0 w0 m Imm H w) : Since Z I0 w0 m Imm (upd u H) w :=
  ⟨h.rel.drop hu, h.mono, h.zone, fun b vb e => h.own b vb (drop_some hu e), h.keep, h.calm, h.big⟩

/-- What is so of the world when i elements have come. -/
structure Round (L : AnnE) (hp : List (Nat × Option VB)) (n : Nat) (tk : List Nat) (m : Nat → Place) (Imm : Nat → Prop) (w : World) (i : Nat) (W : World) : Prop where
  is : ∃ x m1 Imm1, L.inv i x ∧ Since (Zone m (lookH hp) w) Imm w m1 Imm1 (lookH (carsB L.cars n x ++ (nones tk ++ hp))) W ∧ (∀ b, b < n → m1 b = m b) ∧ (∀ b, UsedIn (lookH (carsB L.cars n x ++ (nones tk ++ hp))) b → b < n + 1024) ∧
    (¬ Imm1 w.heap.size ∧ ¬ Imm1 (w.heap.size + 1))
/-- .. when a round was left by a jump. -/
structure Left (K : Exit → St → Prop) (tp : List (Nat × SV)) (hp : List (Nat × Option VB)) (n : Nat) (m : Nat → Place) (Imm : Nat → Prop) (w : World) (e : Exit) (W : World) : Prop where
  is : ∃ S m1 Imm1, K e (backS tp S) ∧ Since (Zone m (lookH hp) w) Imm w m1 Imm1 S.look W ∧ (∀ b, b < n → m1 b = m b) ∧ (∀ b, UsedIn S.look b → b < S.next) ∧ n ≤ S.next ∧ (∃ u, S.hp = u ++ hp) ∧
    (¬ Imm1 w.heap.size ∧ ¬ Imm1 (w.heap.size + 1))
theorem turns_put (w : World) (l : Nat) (o : Obj) : Turns (fun r => r = l) w (w.putObj l o) :=
  ⟨⟨rfl, rfl, rfl, by simp [World.putObj]⟩, fun r _ hr => World.putObj_heap_other hr⟩
theorem turns_alloc (w : World) (o : Obj) (X : Nat → Prop) : Turns X w (w.alloc o) := ⟨⟨rfl, rfl, rfl, by simp⟩, fun r h _ => Go.RowKit.Below.heap_alloc w o r h⟩
theorem Turns.trans {X : Nat → Prop} {a b c : World} (h : Turns X a b) (k : Turns X b c) : Turns X a c := ⟨h.calm.trans k.calm, fun r hr hx => (k.same r (Nat.lt_of_lt_of_le hr h.calm.size) hx).trans (h.same r hr hx)⟩
theorem book_loop {Imm : Nat → Prop} {w : World} {l : Nat} {o : Loop} (h : w.heap[l]? = some (.loop o)) (hi : ¬ Imm l) : Book Imm w l := ⟨hi, fun _ _ _ e => by rw [h] at e; cases e⟩
theorem round_put {L : AnnE} {hp : List (Nat × Option VB)} {n : Nat} {tk : List Nat} {m : Nat → Place} {Imm : Nat → Prop} {w : World} {i : Nat} {W : World} (h : Round L hp n tk m Imm w i W) {o : Loop} (hl : W.heap[w.heap.size + 1]? = some (.loop o)) (o' : Obj) :
    Round L hp n tk m Imm w i (W.putObj (w.heap.size + 1) o') := by
  obtain ⟨x, m1, Imm1, h1, h2, h3, h4, h5⟩ := h.is
  exact ⟨x, m1, Imm1, h1, h2.turns (turns_put W _ o') (fun r hr _ => by subst hr; exact book_loop hl h5.2) (fun r hr => by subst hr; omega), h3, h4, h5⟩
theorem left_put {K : Exit → St → Prop} {tp : List (Nat × SV)} {hp : List (Nat × Option VB)} {n : Nat} {m : Nat → Place} {Imm : Nat → Prop} {w : World} {e : Exit} {W : World} (h : Left K tp hp n m Imm w e W) {o : Loop} (hl : W.heap[w.heap.size + 1]? = some (.loop o)) (o' : Obj) :
    Left K tp hp n m Imm w e (W.putObj (w.heap.size + 1) o') := by
  obtain ⟨S, m1, Imm1, h1, h2, h3, h4, h6, h7, h5⟩ := h.is
  exact ⟨S, m1, Imm1, h1, h2.turns (turns_put W _ o') (fun r hr _ => by subst hr; exact book_loop hl h5.2) (fun r hr => by subst hr; omega), h3, h4, h6, h7, h5⟩

/-- Behind the loop: the activation as it was, with the loop's mark. -/
theorem back_inv {S : St} {m m1 : Nat → Place} {Imm Imm1 : Nat → Prop} {a : Act} {w W : World} {hp : List (Nat × Option VB)} {S4 : St} (hI : Inv E S m Imm a w) (hs : Since E.Z E.I0 E.w0 m Imm (lookH hp) w) (hk : Since (Zone m (lookH hp) w) Imm w m1 Imm1 S4.look W) (htp : S4.tp = S.tp)
    (hkn : S4.kn = []) (hm1 : ∀ b, b < S.next → m1 b = m b) (hlow : ∀ b, UsedIn S4.look b → b < S4.next) (hn : S.next ≤ S4.next) (hD : ¬ Imm1 w.heap.size) (hW : W.heap[w.heap.size]? = some (.deferred (some []))) :
    Inv E S4 m1 Imm1 { a with defers := { target := .collected w.heap.size, args := #[] } :: a.defers } W := by
  have hget : ∀ d, S4.get d = S.get d := fun d => by show getT S4.tp d = getT S.tp d; rw [htp]
  refine ⟨⟨hs.next hk, ?_, hI.live.size, ⟨⟨_, rfl, hW, Nat.le_trans E.lo_le hI.live.since.calm.size, hD, ?_⟩, ?_⟩, ?_⟩, ?_, Nat.le_trans hI.low0 hn, ?_⟩
  · intro d
    rw [hget]
    exact (hI.live.slots d).moved fun b hb => hm1 b (hI.low b (.inr ⟨d, hb⟩))
  · intro D' hD' e
    subst e
    have : ∀ (ds : List Deferred), Marks E.lo Imm w ds → ({ target := .collected w.heap.size, args := #[] } : Deferred) ∈ ds → False := by
      intro ds
      induction ds with
      | nil => intro _ h; simp at h
      | cons d ds ih =>
        rintro ⟨⟨D, e, h1, _⟩, hr⟩ h
        rcases List.mem_cons.1 h with h | h
        · rw [e] at h
          cases h
          have := (Array.getElem?_eq_some_iff.1 h1).1
          omega
        · exact ih hr h
    exact this _ hI.live.defers hD'
  · refine hI.live.defers.mono fun D h1 _ h3 => ?_
    have hlt := (Array.getElem?_eq_some_iff.1 h1).1
    obtain ⟨q1, q2⟩ := hk.book hs.rel hlt (book_of h1 h3)
    exact ⟨q2.trans h1, q1.1⟩
  · intro b hb
    rw [hm1 b (Nat.lt_of_lt_of_le hb hI.low0)]
    exact hI.live.same b hb
  · rintro b (hb | ⟨d, hb⟩)
    · exact hlow b hb
    · rw [hget] at hb
      have := hI.low b (.inr ⟨d, hb⟩)
      omega
  · intro d b h
    exact absurd h (by unfold St.know; rw [hkn]; simp [knowT, lkN])

theorem itK_ok {g : SV} {H : VH} {key : Nat} {K : Bool → (k : RK) → List (El k) → List (Nat × Option VB) → Prop} (h : itK Γ g H key K) :
    ∃ f cap gc ag y u k ys, g = .fn (.func f) [] cap ∧ lkN Γ f = some gc ∧ gc (mark :: cap) H key = .ok (.tup [.val (.bool ag), y]) u ∧ sliceOf H y = some ⟨k, ys⟩ ∧ flatK k = true ∧ ys.length ≤ 4194304 ∧ K ag k ys u := by
  unfold itK at h
  split at h
  · rename_i f cap
    split at h
    · rename_i gc hgc
      split at h
      · rename_i ag y u hr
        split at h
        · rename_i k ys hsl
          cases hf : flatK k with
          | false => rw [hf] at h; exact h.elim
          | true => rw [hf] at h; exact ⟨f, cap, gc, ag, y, u, k, ys, rfl, hgc, hr, hsl, hf, h.1, h.2⟩
        · exact h.elim
      · exact h.elim
    · exact h.elim
  · exact h.elim
theorem putP_ok {tp : List (Nat × SV)} {ps : List Nat} {v : SV} {K : List (Nat × SV) → Prop} (h : putP tp ps v K) : ∃ p, ps = [p] ∧ K ((p, v) :: tp) := by
  unfold putP at h
  split at h
  · exact ⟨_, rfl, h⟩
  · exact h.elim
theorem carSlot_nil {cs : List Car} (h : Nat.beq (lenN (cs.flatMap carSlot)) 0 = true) : cs.flatMap carSlot = [] := by
  rw [beqN, decide_eq_true_eq, lenN_eq] at h
  exact List.eq_nil_of_length_eq_zero h

theorem each_wp {g : Operand} {ps : Array Tmp} {ca cb : Code} {L : AnnE} {S : St} {K : Exit → St → Prop} {a : Act} {w : World} {m : Nat → Place} {Imm : Nat → Prop} {f : FuncId} {gc : GC} {cap : List SV} {ag : Bool} {yv : SV} {u : List (Nat × Option VB)} {k : RK} {ys : List (El k)}
    (hgok : GOk P f gc) (hX : Walks P T Γ A ca) (hY : Walks P T Γ A cb) (hg : arg S.get g = .fn (.func f) [] cap) (hit : gc (mark :: cap) S.look S.next = .ok (.tup [.val (.bool ag), yv]) u) (hsl : sliceOf S.look yv = some ⟨k, ys⟩) (hfk : flatK k = true) (hmx : ys.length ≤ 4194304)
    (h : each L S.tp (u ++ S.hp) S.next (S.next + 1024) (dsts (.rangeFunc g ps ca cb)) ps.toList ag k ys (run T Γ A ca) (run T Γ A cb) K) (hd : ∀ d ∈ dsts (.rangeFunc g ps ca cb), d < E.wide) (hI : Inv E S m Imm a w) :
    (Code.rangeFunc g ps ca cb).wpIn (fr none) 0 P (Post E S (dsts (.rangeFunc g ps ca cb)) K) a w := by
  obtain ⟨hu, hiter⟩ := hgok.iter cap S.look S.next ag yv u hit k ys hsl hfk hmx
  have hv := arg_V hI.live.slots g
  rw [hg] at hv
  obtain ⟨lb, hvg, hlb⟩ : ∃ lb, a.eval g = .func (.func f) #[] lb ∧ Vs m cap lb.toList := by
    generalize a.eval g = vg at hv
    cases hv with
    | fn _ _ _ va lb h1 h2 =>
      have : va = #[] := by
        have := h1.nil'
        cases va; simp at this; subst this; rfl
      subst this
      exact ⟨lb, rfl, h2⟩
  obtain ⟨Ks, hKs, hseq⟩ := hiter m Imm w lb hI.live.since.rel hlb
  generalize hhp : u ++ S.hp = hp at h
  have hlk : lookH hp = upd u S.look := by rw [← hhp, lookH_append]; rfl
  rw [← hlk] at hKs
  have hR : Rel m Imm (lookH hp) w := by rw [hlk]; exact hI.live.since.rel.drop hu
  have hs0 : Since E.Z E.I0 E.w0 m Imm (lookH hp) w := by rw [hlk]; exact hI.live.since.drop hu
  have hUsed : ∀ b, UsedIn (lookH hp) b → b < S.next := by
    intro b hb
    rw [hlk] at hb
    refine hI.low b (.inl ?_)
    rcases hb with hb | ⟨b', cs, hb, hx⟩
    · cases e : upd u S.look b with
      | none => exact absurd e hb
      | some vb => exact .inl (by rw [drop_some hu e]; simp)
    · exact .inr ⟨b', cs, drop_some hu hb, hx⟩
  unfold each at h
  obtain ⟨x0, t0, hx0, hT0⟩ := rdCars_ok0 (S0 := ⟨S.tp, hp, S.next, []⟩) h
  obtain ⟨hc0, ⟨hent⟩, hround, hend⟩ := hx0
  simp only [Bool.and_eq_true] at hc0
  obtain ⟨hcs, ht0, hns⟩ := hc0
  obtain ⟨hT0, _⟩ := hT0 hcs
  generalize hds : dsts (.rangeFunc g ps ca cb) = ds at *
  have hnoS := carSlot_nil hns
  have hX1 : ∀ d ∈ dsts ca, d ∈ ds := fun d h => by rw [← hds]; simp [dsts, h]
  have hY1 : ∀ d ∈ dsts cb, d ∈ ds := fun d h => by rw [← hds]; simp [dsts, h]
  have hP1 : ∀ d ∈ ps.toList, d ∈ ds := fun d h => by rw [← hds]; simp only [dsts, List.mem_append]; exact .inl h
  generalize htk : t0.map (·.2) = tk at *
  have toRound : ∀ {i : Nat} {x : Ds L.cars} {Z : Nat → Prop} {m1 : Nat → Place} {Imm1 : Nat → Prop} {a1 : Act} {W W0 : World} (E1 : Env), E1.low = S.next → E1.m0 = m → L.inv i x → Inv E1 (Sx.head L.cars ⟨S.tp, hp, S.next, []⟩ ds tk x) m1 Imm1 a1 W →
      Since (Zone m (lookH hp) w) Imm w m1 Imm1 (Sx.head L.cars ⟨S.tp, hp, S.next, []⟩ ds tk x).look W → ¬ Imm1 w.heap.size ∧ ¬ Imm1 (w.heap.size + 1) → Round L hp S.next tk m Imm w i W := by
    intro i x Z m1 Imm1 a1 W W0 E1 e1 e2 hinv hI1 hs hD
    exact ⟨x, m1, Imm1, hinv, hs, fun b hb => by rw [← e2]; exact hI1.live.same b (by rw [e1]; exact hb), fun b hb => hI1.low b (.inl hb), hD⟩
  have hround0 : Round L hp S.next tk m Imm w 0 w := by
    let E' : Env := ⟨Zone m (lookH hp) w, Imm, w, E.wide, S.next, m, w.heap.size, Nat.le_refl _⟩
    have hlow : ∀ b, Used (St.get ⟨S.tp, hp, S.next, []⟩) (St.look ⟨S.tp, hp, S.next, []⟩) b → b < S.next := by
      rintro b (hb | ⟨d, hb⟩)
      · exact hUsed b hb
      · exact hI.low b (.inr ⟨d, hb⟩)
    have hIp : Inv E' ⟨S.tp, hp, S.next, []⟩ m Imm { tmps := a.tmps, defers := [] } w :=
      ⟨⟨Since.start hR, hI.live.slots, hI.live.size, trivial, fun _ _ => rfl⟩, hlow, Nat.le_refl _, fun d b h => absurd h (by simp [St.know, knowT, lkN])⟩
    obtain ⟨m1, hI1⟩ := rehead (S := ⟨S.tp, hp, S.next, []⟩) hlow (Nat.le_refl _) hIp hcs ht0 hT0 (fun _ _ => rfl) (fun _ _ _ _ => rfl)
    refine toRound (Z := fun _ => True) (W0 := w) E' rfl rfl hent hI1 hI1.live.since ⟨fun hi => ?_, fun hi => ?_⟩
    · have := hI.live.since.rel.imm _ hi; omega
    · have := hI.live.since.rel.imm _ hi; omega
  refine wpIn_rangeFunc ?_
  intro fn _
  obtain ⟨rec, hrec⟩ : ∃ rec : LoopState → Option Code → Loop, rec = fun st pe => { state := st, pending := pe, fn, tmps := a.tmps, params := ps, assign := ca, body := cb, defers := w.heap.size } := ⟨_, rfl⟩
  obtain ⟨W1, hW1⟩ : ∃ W1, (w.alloc (.deferred (some []))).alloc (.loop (rec .ready none)) = W1 := ⟨_, rfl⟩
  have hL1 : W1.heap[w.heap.size + 1]? = some (.loop (rec .ready none)) := by
    rw [← hW1]; have := World.alloc_heap_new (w.alloc (.deferred (some []))) (.loop (rec .ready none)); rwa [World.size_alloc] at this
  have hK1 : W1.heap[w.heap.size]? = some (.deferred (some [])) := by
    rw [← hW1]; exact (Go.RowKit.Below.heap_alloc _ _ _ (by simp)).trans (World.alloc_heap_new w _)
  have hJ0 : Round L hp S.next tk m Imm w 0 W1 := by
    obtain ⟨x, m1, Imm1, h1, h2, h3, h4, h5⟩ := hround0.is
    refine ⟨x, m1, Imm1, h1, h2.turns (X := fun r => w.heap.size ≤ r) (hW1 ▸ (turns_alloc _ _ _).trans (turns_alloc _ _ _)) (fun r hr hlt => by omega) (fun r hr => hr), h3, h4, h5⟩
  obtain ⟨fn', hf1, hf2, hf3⟩ := hgok.fn
  have hinv : (invoke (.fn (.func f) lb) #[.func (.yield (w.heap.size + 1)) #[] #[]]).run P W1 = .ok (.enter f (#[.func (.yield (w.heap.size + 1)) #[] #[]] ++ lb)) W1 := by
    have h4' : ¬ fn'.name = "runtime.NumGoroutine" := by simpa using hf2
    have h5' : ¬ fn'.body = none := by intro e; rw [e] at hf3; simp at hf3
    simp [invoke, callFunc, hf1, h4', h5']
  refine ⟨w.heap.size + 1, [{ target := .collected w.heap.size, args := #[] }], W1, { target := .fn (.func f) lb, args := #[.func (.yield (w.heap.size + 1)) #[] #[]] }, W1, f,
    #[.func (.yield (w.heap.size + 1)) #[] #[]] ++ lb, W1, ?_, ?_, fun _ _ => trivial, hinv, fun hn => absurd hn (by simp [Fence.wide]), ?_⟩
  · rw [← hW1, hrec]; exact run_enterLoop_outer _ _ _ _ _
  · simp only [resolve, hvg]
    simp [go_sem]
  · refine (hseq (w.heap.size + 1)
      (fun i W => Round L hp S.next tk m Imm w i W ∧ W.heap[w.heap.size + 1]? = some (.loop (rec .ready none)) ∧ W.heap[w.heap.size]? = some (.deferred (some [])))
      (fun W => ∃ e c, ((e = .ret ∧ c = .ret) ∨ ∃ id, e = .exit id ∧ c = .exit id) ∧ Left K S.tp hp S.next m Imm w e W ∧ W.heap[w.heap.size + 1]? = some (.loop (rec .done (some c))) ∧ W.heap[w.heap.size]? = some (.deferred (some [])))
      W1 ?_ ?_ ?_ ⟨hJ0, hL1, hK1⟩).mono ?_
    · rintro i W ⟨hr, _, _⟩ r hKr
      obtain ⟨x, m1, Imm1, h1, h2, h3, h4, h5⟩ := hr.is
      exact h2.keep r (hKs r hKr).1 (hKs r hKr).2
    · rintro i W W' ⟨hr, hl, hk⟩ ht
      obtain ⟨x, m1, Imm1, h1, h2, h3, h4, h5⟩ := hr.is
      exact ⟨⟨x, m1, Imm1, h1, h2.turns ht (fun r hr => hr.elim) (fun r hr => hr.elim), h3, h4, h5⟩, (ht.same _ (Array.getElem?_eq_some_iff.1 hl).1 id).trans hl, (ht.same _ (Array.getElem?_eq_some_iff.1 hk).1 id).trans hk⟩
    · -- one round
      rintro i v W hvi ⟨hr, hl, hk⟩
      obtain ⟨x, m1, Imm1, hinvx, hsx, hm1, hlo, hD, hL⟩ := hr.is
      have hilt : i < ys.length := by
        have := (List.getElem?_eq_some_iff.1 hvi).1
        simpa using this
      obtain rfl : v = eltV ag k (ys.getD i (zK k)) := by
        rw [List.getElem?_map] at hvi
        rw [List.getD_eq_getElem?_getD]
        cases e : ys[i]? with
        | none => rw [e] at hvi; cases hvi
        | some q => rw [e] at hvi; simp at hvi; simp [hvi]
      have hb := allDs_ok hround x i hilt hinvx
      obtain ⟨p, hps, hb⟩ := putP_ok hb
      rw [fSt_eq] at hb
      have hps' : ps = #[p] := list1 hps
      have hpw : p < a.tmps.size := by rw [hI.live.size]; exact hd p (hP1 p (by rw [hps]; simp))
      have hlt : w.heap.size + 1 < W.heap.size := (Array.getElem?_eq_some_iff.1 hl).1
      have hy : (Instr.yield (w.heap.size + 1) #[eltV ag k (ys.getD i (zK k))]).run P W = .ok (.round (w.heap.size + 1) fn (a.tmps.setIfInBounds p (eltV ag k (ys.getD i (zK k)))) ca cb) W := by
        have := run_yield (P := P) (args := #[eltV ag k (ys.getD i (zK k))]) hl (by rw [hrec, hps']; rfl)
        rw [hrec, hps'] at this
        simpa using this
      refine ⟨_, _, _, _, hy, ?_⟩
      refine roundIn_of_wpIn trivial ?_
      have hlD := (Array.getElem?_eq_some_iff.1 hk).1
      let E1 : Env := ⟨Zone m1 (lookH (carsB L.cars S.next x ++ (nones tk ++ hp))) W, Imm1, W, E.wide, S.next, m, W.heap.size, Nat.le_refl _⟩
      have hI1 : Inv E1 ⟨(p, eltS ag k (ys.getD i (zK k))) :: S.tp, carsB L.cars S.next x ++ (nones tk ++ hp), S.next + 1024, []⟩ m1 Imm1 { tmps := a.tmps.setIfInBounds p (eltV ag k (ys.getD i (zK k))), defers := [] } W := by
        have hget : ∀ d, St.get ⟨(p, eltS ag k (ys.getD i (zK k))) :: S.tp, carsB L.cars S.next x ++ (nones tk ++ hp), S.next + 1024, []⟩ d = if d = p then eltS ag k (ys.getD i (zK k)) else S.get d := fun d => congrFun (getT_cons p _ S.tp) d
        refine ⟨⟨Since.start hsx.rel, ?_, ?_, trivial, hm1⟩, ?_, Nat.le_add_right _ _, fun d b h => absurd h (by simp [St.know, knowT, lkN])⟩
        · intro d
          rw [hget]
          by_cases hdp : d = p
          · subst hdp
            rw [if_pos rfl]
            have := eltV_V m1 ag k (ys.getD i (zK k))
            simpa [hpw] using this
          · rw [if_neg hdp]
            have := (hI.live.slots d).moved (m' := m1) fun b hb => hm1 b (hI.low b (.inr ⟨d, hb⟩))
            rw [Array.getD_eq_getD_getElem?, Array.getElem?_setIfInBounds_ne (by omega)]
            simpa [Array.getD_eq_getD_getElem?] using this
        · show (a.tmps.setIfInBounds p _).size = E.wide
          rw [Array.size_setIfInBounds]; exact hI.live.size
        · rintro b (hb | ⟨d, hb⟩)
          · exact hlo b hb
          · rw [hget] at hb
            split at hb
            · rw [eltS_ids] at hb; simp at hb
            · have := hI.low b (.inr ⟨d, hb⟩)
              show b < S.next + 1024
              omega
      refine wpIn_mono (hX E1 (w.heap.size + 1) _ _ _ W m1 Imm1 hb (fun d h => hd d (hX1 d h)) hI1) ?_
      rintro e a2 W2 ⟨S2, m2, Imm2, hK2, hI2, hA2⟩
      cases e with
      | normal =>
        obtain ⟨bk1, e1⟩ := hI2.live.since.book hsx.rel hlt (book_loop hl hL)
        obtain ⟨bk2, e2⟩ := hI2.live.since.book hsx.rel hlD (book_of hk hD)
        have hl2 : W2.heap[w.heap.size + 1]? = some (.loop (rec .ready none)) := e1.trans hl
        have hk2 : W2.heap[w.heap.size]? = some (.deferred (some [])) := e2.trans hk
        have hlt2 : w.heap.size + 1 < W2.heap.size := (Array.getElem?_eq_some_iff.1 hl2).1
        refine ⟨_, run_beginRound hl2 (by rw [hrec]), ?_⟩
        obtain ⟨W3, hW3⟩ : ∃ W3, W2.putObj (w.heap.size + 1) (.loop { rec .ready none with state := .busy }) = W3 := ⟨_, rfl⟩
        rw [hW3]
        have tp3 : Turns (fun r => r = w.heap.size + 1) W2 W3 := hW3 ▸ turns_put W2 _ _
        have hl3 : W3.heap[w.heap.size + 1]? = some (.loop { rec .ready none with state := .busy }) := hW3 ▸ World.putObj_heap_same hlt2
        have hk3 : W3.heap[w.heap.size]? = some (.deferred (some [])) := (hW3 ▸ World.putObj_heap_other (by omega) : W3.heap[w.heap.size]? = W2.heap[w.heap.size]?).trans hk2
        have hX3 : ∀ r, r = w.heap.size + 1 → r < W2.heap.size → Book Imm2 W2 r := fun r hr _ => by subst hr; exact bk1
        have hs2 := hsx.next hI2.live.since
        have hs3 : Since (Zone m (lookH hp) w) Imm w m2 Imm2 S2.look W3 := hs2.turns tp3 hX3 (fun r hr => by subst hr; omega)
        let E3 : Env := ⟨Zone m2 S2.look W3, Imm2, W3, E.wide, S.next, m, W.heap.size, Nat.le_trans hI2.live.since.calm.size tp3.calm.size⟩
        have hI3 : Inv E3 S2 m2 Imm2 a2 W3 :=
          ⟨⟨Since.start hs3.rel, hI2.live.slots, hI2.live.size, hI2.live.defers.mono fun D' h1 _ h3 => ⟨by
              rw [tp3.same D' (Array.getElem?_eq_some_iff.1 h1).1 (fun e => by subst e; rw [hl2] at h1; cases h1)]; exact h1, h3⟩, hI2.live.same⟩, hI2.low, hI2.low0, hI2.kn⟩
        refine wpIn_mono (hY E3 (w.heap.size + 1) S2 _ a2 W3 m2 Imm2 hK2 (fun d h => hd d (hY1 d h)) hI3) ?_
        rintro e a3 W4 ⟨S3, m3, Imm3, hK3, hI4, hA3⟩
        obtain ⟨bk3, e3⟩ := hI4.live.since.book hs3.rel (Array.getElem?_eq_some_iff.1 hl3).1 (book_loop hl3 bk1.1)
        obtain ⟨bk4, e4⟩ := hI4.live.since.book hs3.rel (Array.getElem?_eq_some_iff.1 hk3).1 (book_of hk3 bk2.1)
        have hs4 := hs3.next hI4.live.since
        have hl4 := e3.trans hl3
        have hk4 := e4.trans hk3
        have hlt4 := (Array.getElem?_eq_some_iff.1 hl4).1
        have hput : ∀ o, (W4.putObj (w.heap.size + 1) o).heap[w.heap.size + 1]? = some o ∧ (W4.putObj (w.heap.size + 1) o).heap[w.heap.size]? = some (.deferred (some [])) := fun o => ⟨World.putObj_heap_same hlt4, (World.putObj_heap_other (by omega)).trans hk4⟩
        obtain ⟨u2, hu2⟩ := hA2.hp
        obtain ⟨u3, hu3⟩ := hA3.hp
        have hnext : S.next ≤ S3.next := by
          have q1 : S.next + 1024 ≤ S2.next := hA2.next
          have q2 := hA3.next
          omega
        have hS3hp : S3.hp = (u3 ++ u2) ++ (carsB L.cars S.next x ++ (nones tk ++ hp)) := by rw [hu3, hu2, List.append_assoc]
        have left : ∀ (e : Exit), K e (backS S.tp S3) → Left K S.tp hp S.next m Imm w e W4 := fun e hK =>
          ⟨S3, m3, Imm3, hK, hs4, fun b hb => hI4.live.same b hb, fun b hb => hI4.low b (.inl hb), hnext, ⟨u3 ++ u2 ++ (carsB L.cars S.next x ++ nones tk), by rw [hS3hp]; simp only [List.append_assoc]⟩, bk4.1, bk3.1⟩
        cases e with
        | normal =>
          refine ⟨_, _, run_endRound none hl4, .inl ⟨rfl, ?_, ?_, (hput _).2⟩⟩
          · refine round_put ?_ hl4 _
            have hK3 : rdCars S3 L.cars S.next fun y t => (okRen L.cars S.next tk t && okHp L.cars S.next tk S3 (lenN (carsB L.cars S.next x ++ (nones tk ++ hp)))) = true ∧ Nxt (L.inv (i + 1) y) True := hK3
            obtain ⟨y, t, ⟨hok, hy, _⟩, hTy⟩ := rdCars_ok0 (S0 := ⟨S.tp, hp, S.next, []⟩) hK3
            rw [Bool.and_eq_true] at hok
            obtain ⟨hok1, hok2⟩ := hok
            obtain ⟨hTy, _⟩ := hTy hcs
            have hlow : ∀ b, Used (St.get ⟨S.tp, hp, S.next, []⟩) (St.look ⟨S.tp, hp, S.next, []⟩) b → b < S.next := by
              rintro b (hb | ⟨d, hb⟩)
              · exact hUsed b hb
              · exact hI.low b (.inr ⟨d, hb⟩)
            obtain ⟨m4, hI5⟩ := rehead (E := E3) (S := ⟨S.tp, hp, S.next, []⟩) (S1 := S3) hlow (Nat.le_refl _) hI4 hcs hok1 hTy (fun d hd' => by
                rw [hA3.get d (fun h => hd' (hY1 d h)), hA2.get d (fun h => hd' (hX1 d h))]
                have : St.get ⟨(p, eltS ag k (ys.getD i (zK k))) :: S.tp, carsB L.cars S.next x ++ (nones tk ++ hp), S.next + 1024, []⟩ d = if d = p then eltS ag k (ys.getD i (zK k)) else S.get d := congrFun (getT_cons p _ S.tp) d
                rw [this, if_neg (fun e => hd' (hP1 d (by rw [hps, e]; simp)))]
                rfl) (by
              intro b hb h13 h14
              have hb : b < S.next := hb
              have hnew : ∀ q ∈ u3 ++ u2, q.1 ≠ b := by
                intro q hq e
                unfold okHp at hok2
                rw [keysOf_eq, List.all_map] at hok2
                have htake : S3.hp.take (lenN S3.hp - lenN (carsB L.cars S.next x ++ (nones tk ++ hp))) = u3 ++ u2 := by
                  rw [lenN_eq, lenN_eq, hS3hp, List.length_append (as := u3 ++ u2), Nat.add_sub_cancel]
                  exact List.take_left
                rw [htake] at hok2
                have := (List.all_eq_true.1 hok2) q hq
                simp only [Function.comp, Bool.or_eq_true, Nat.ble_eq, memN_iff] at this
                rcases this with h | h | h
                · omega
                · exact h13 (e ▸ h)
                · exact h14 (e ▸ h)
              have e1 : S3.look b = lookH (carsB L.cars S.next x ++ (nones tk ++ hp)) b := by
                show lookH S3.hp b = _
                rw [hS3hp, lookH_append]
                unfold upd
                rw [lkN_none.2 hnew]
              rw [e1]
              have hg : lookH (carsB L.cars S.next x ++ (nones tk ++ hp)) b = match lkN (carsB L.cars S.next x ++ (nones tk ++ hp)) b with | some v => v | none => none := rfl
              rw [hg, lkN_append, lkN_append]
              have q1 : lkN (carsB L.cars S.next x) b = none := cars_blocks hcs hb h13
              have q3 : lkN (nones tk) b = none := by
                rcases nones_lk (l := tk) (b := b) with ⟨q, _⟩ | ⟨_, q⟩
                · exact absurd q h14
                · exact q
              rw [q1, q3]
              rfl)
            have hI5s : Since (Zone m2 S2.look W3) Imm2 W3 m4 Imm3 (Sx.head L.cars ⟨S.tp, hp, S.next, []⟩ ds tk y).look W4 := hI5.live.since
            exact toRound (Z := fun _ => True) (W0 := w) E3 rfl rfl hy hI5 (hs3.next hI5s) ⟨bk4.1, bk3.1⟩
          · rw [(hput _).1, hrec]; rfl
        | ret =>
          refine ⟨_, _, run_endRound (some .ret) hl4, .inr ⟨rfl, .ret, .ret, .inl ⟨rfl, rfl⟩, left_put (left .ret hK3) hl4 _, ?_, (hput _).2⟩⟩
          rw [(hput _).1, hrec]; rfl
        | exit id =>
          refine ⟨_, _, run_endRound (some (.exit id)) hl4, .inr ⟨rfl, .exit id, .exit id, .inr ⟨id, rfl, rfl⟩, left_put (left (.exit id) hK3) hl4 _, ?_, (hput _).2⟩⟩
          rw [(hput _).1, hrec]; rfl
        | _ => exact hK3.elim
      | _ => exact hK2.elim
    · -- behind the iterator
      rintro e W2 ⟨⟨v, rfl⟩, (⟨hr, hl, hk⟩ | ⟨e, c, hec, hr, hl, hk⟩)⟩
      · have hfin : Post E S ds K .normal { a with defers := { target := .collected w.heap.size, args := #[] } :: a.defers } (W2.putObj (w.heap.size + 1) (.loop { rec .ready none with state := .exhausted })) := by
          obtain ⟨x, m1, Imm1, h1, h2, h3, h4, h5⟩ := (round_put hr hl (.loop { rec .ready none with state := .exhausted })).is
          have hK := allDs_ok hend x (by simpa using h1)
          rw [fSt_eq] at hK
          refine ⟨_, m1, Imm1, hK, back_inv hI hs0 (S4 := ⟨S.tp, carsB L.cars S.next x ++ (nones tk ++ hp), S.next + 1024, []⟩) h2 rfl rfl h3 h4 (Nat.le_add_right _ _) h5.1 ?_, ⟨⟨carsB L.cars S.next x ++ (nones tk ++ u), by rw [← hhp]; simp only [List.append_assoc]⟩, Nat.le_add_right _ _, fun _ _ => rfl⟩⟩
          exact (World.putObj_heap_other (by omega)).trans hk
        refine ⟨none, _, by have := run_endLoop (P := P) hl (by rw [hrec]; simp); rw [hrec] at this; exact this, ?_⟩
        rw [hrec] at hfin
        exact hfin
      · have hfin : Post E S ds K e { a with defers := { target := .collected w.heap.size, args := #[] } :: a.defers } (W2.putObj (w.heap.size + 1) (.loop { rec .done (some c) with state := .exhausted })) := by
          obtain ⟨S3, m1, Imm1, h1, h2, h3, h4, h6, ⟨u3, h7⟩, h5⟩ := (left_put hr hl (.loop { rec .done (some c) with state := .exhausted })).is
          refine ⟨_, m1, Imm1, h1, back_inv hI hs0 (S4 := backS S.tp S3) ?_ rfl rfl h3 ?_ h6 h5.1 ?_, ⟨⟨u3 ++ u, ?_⟩, h6, fun _ _ => rfl⟩⟩
          · exact h2
          · exact h4
          · exact (World.putObj_heap_other (by omega)).trans hk
          · show S3.hp = _
            rw [h7, ← hhp, List.append_assoc]
        refine ⟨some c, _, by have := run_endLoop (P := P) hl (by rw [hrec]; simp); rw [hrec] at this; exact this, ?_⟩
        rw [hrec] at hfin
        rcases hec with ⟨rfl, rfl⟩ | ⟨id, rfl, rfl⟩
        · exact wpIn_ret hfin
        · exact wpIn_exit hfin

theorem range_wp (hΓ : GOks P Γ) {g : Operand} {ps : Array Tmp} {ca cb : Code} {S : St} {K : Exit → St → Prop} {a : Act} {w : World} {m : Nat → Place} {Imm : Nat → Prop} (hX : noRange ca = true → Walks P T Γ A ca) (hY : noRange cb = true → Walks P T Γ A cb)
    (h : atRange Γ A g ps ca cb (run T Γ A ca) (run T Γ A cb) S K) (hd : ∀ d ∈ dsts (.rangeFunc g ps ca cb), d < E.wide) (hI : Inv E S m Imm a w) :
    (Code.rangeFunc g ps ca cb).wpIn (fr none) 0 P (Post E S (dsts (.rangeFunc g ps ca cb)) K) a w := by
  unfold atRange at h
  cases hnr : noRange ca && noRange cb with
  | false => rw [hnr] at h; exact h.elim
  | true =>
  rw [hnr] at h
  simp only [cond_true] at h
  rw [Bool.and_eq_true] at hnr
  split at h
  · exact h.elim
  · split at h
    · exact h.elim
    · split at h
      · rename_i ids vs bs L1 _
        rw [fNs_eq, fL_eq, fNs_eq] at h
        obtain ⟨rs, h⟩ := fRows_any h
        rw [fNs_eq, fN_eq, fN_eq] at h
        obtain ⟨f, cap, gc, ag, yv, u, k, ys, hg, hgc, hit, hsl, hfk, hmx, h⟩ := itK_ok h
        rw [fU_eq] at h
        exact each_wp (hΓ f gc hgc) (hX hnr.1) (hY hnr.2) hg hit hsl hfk hmx h hd hI
      · exact h.elim
theorem run_sound (hT : TOk P T) (hΓ : GOks P Γ) (hm : P.follows .mixedOrders = true) : ∀ (c : Code) (E : Env) (rd : Option Nat) (S : St) (K : Exit → St → Prop) (a : Act) (w : World) (m : Nat → Place) (Imm : Nat → Prop), (rd = none ∨ noRange c = true) → run T Γ A c S K → (∀ d ∈ dsts c, d < E.wide) → Inv E S m Imm a w →
    c.wpIn (fr rd) 0 P (Post E S (dsts c) K) a w
  | .skip, E, rd, S, K, a, w, m, Imm, hr, h, _, hI => wpIn_skip ⟨S, m, Imm, h, hI, .refl _ _⟩
  | .label _, E, rd, S, K, a, w, m, Imm, hr, h, _, hI => wpIn_label ⟨S, m, Imm, h, hI, .refl _ _⟩
  | .ret, E, rd, S, K, a, w, m, Imm, hr, h, _, hI => wpIn_ret ⟨S, m, Imm, h, hI, .refl _ _⟩
  | .exit _, E, rd, S, K, a, w, m, Imm, hr, h, _, hI => wpIn_exit ⟨S, m, Imm, h, hI, .refl _ _⟩
  | .region id ops dr, E, rd, S, K, a, w, m, Imm, hr, h, hd, hI => by
    have h : atRegion T Γ ops dr S K := h
    unfold atRegion at h
    rw [fN_eq] at h
    refine region_wp (E := E) hT hΓ hm (K := K .normal) (fun o ho d e => hd d ?_) h hI ?_
    · exact List.mem_filterMap.2 ⟨o, by simpa using ho, e⟩
    · intro a' w' m' Imm' S' hK hI' hp hn hg
      refine ⟨S', m', Imm', hK, hI', hp, hn, fun d hd' => hg d fun o ho e => hd' ?_⟩
      exact List.mem_filterMap.2 ⟨o, by simpa using ho, e⟩
  | .seq x y, E, rd, S, K, a, w, m, Imm, hr, h, hd, hI => by
    have h : run T Γ A x S (afterSeq (run T Γ A y) K) := h
    refine wpIn_seq (wpIn_mono (run_sound hT hΓ hm x E rd S _ a w m Imm (hr.imp id fun h => by simp only [noRange, Bool.and_eq_true] at h; exact h.1) h (fun d h => hd d (by simp [dsts, h])) hI) ?_)
    rintro e a' w' ⟨S', m', Imm', hK, hI', hA⟩
    cases e with
    | normal =>
      refine wpIn_mono (run_sound hT hΓ hm y E rd S' K a' w' m' Imm' (hr.imp id fun h => by simp only [noRange, Bool.and_eq_true] at h; exact h.2) hK (fun d h => hd d (by simp [dsts, h])) hI') ?_
      rintro e a'' w'' ⟨S2, m2, Imm2, hK2, hI2, hA2⟩
      exact ⟨S2, m2, Imm2, hK2, hI2, hA.trans hA2 (fun d h => by simp [dsts, h]) (fun d h => by simp [dsts, h])⟩
    | _ => exact ⟨S', m', Imm', hK, hI', hA.mono fun d h => by simp [dsts, h]⟩
  | .cond c x y, E, rd, S, K, a, w, m, Imm, hr, h, hd, hI => by
    have h : part S c fun t S => bif t then run T Γ A x S K else run T Γ A y S K := h
    obtain ⟨b, S1, h1, h2, h3, h4, h5, h6, h7⟩ := part_ok h hI.kn
    have hc : a.eval c = .bool b := bool_slot (arg_V hI.live.slots c) h1
    have hI1 : Inv E S1 m Imm a w := ⟨by rw [h3, h4]; exact hI.live, by rw [h3, h4, h5]; exact hI.low, by rw [h5]; exact hI.low0, h7⟩
    have hA : After S (dsts (.cond c x y)) S1 := ⟨⟨[], by rw [h6]; rfl⟩, by rw [h5]; exact Nat.le_refl _, fun d _ => by rw [h3]⟩
    refine wpIn_cond hc ?_
    cases b with
    | true =>
      refine wpIn_mono (run_sound hT hΓ hm x E rd S1 K a w m Imm (hr.imp id fun h => by simp only [noRange, Bool.and_eq_true] at h; exact h.1) h2 (fun d h => hd d (by simp [dsts, h])) hI1) ?_
      rintro e a'' w'' ⟨S2, m2, Imm2, hK2, hI2, hA2⟩
      exact ⟨S2, m2, Imm2, hK2, hI2, hA.trans hA2 (fun d h => h) (fun d h => by simp [dsts, h])⟩
    | false =>
      refine wpIn_mono (run_sound hT hΓ hm y E rd S1 K a w m Imm (hr.imp id fun h => by simp only [noRange, Bool.and_eq_true] at h; exact h.2) h2 (fun d h => hd d (by simp [dsts, h])) hI1) ?_
      rintro e a'' w'' ⟨S2, m2, Imm2, hK2, hI2, hA2⟩
      exact ⟨S2, m2, Imm2, hK2, hI2, hA.trans hA2 (fun d h => h) (fun d h => by simp [dsts, h])⟩
  | .block id c, E, rd, S, K, a, w, m, Imm, hr, h, hd, hI => by
    have h : run T Γ A c S (afterBlock id K) := h
    refine wpIn_block (wpIn_mono (run_sound hT hΓ hm c E rd S _ a w m Imm hr h hd hI) ?_)
    rintro e a' w' ⟨S', m', Imm', hK, hI', hA⟩
    cases e with
    | exit i =>
      simp only [Exit.inBlock]
      simp only [afterBlock] at hK
      rw [beqN] at hK
      by_cases e : i = id
      · rw [if_pos e]; rw [decide_eq_true e] at hK; exact ⟨S', m', Imm', hK, hI', hA⟩
      · rw [if_neg e]; rw [decide_eq_false e] at hK; exact ⟨S', m', Imm', hK, hI', hA⟩
    | _ => exact ⟨S', m', Imm', hK, hI', hA⟩
  | .loop c, E, rd, S, K, a, w, m, Imm, hr, h, hd, hI => by
    have h : atLoop A c (run T Γ A c) S K := h
    unfold atLoop at h
    split at h
    · exact h.elim
    · split at h
      · exact h.elim
      · rename_i L0 _
        split at h
        · rename_i ids vs bs L1 _
          rw [fNs_eq, fL_eq, fNs_eq] at h
          obtain ⟨rs, h⟩ := fRows_any h
          rw [fNs_eq] at h
          generalize L1 ids vs rs = L at h
          unfold round at h
          rw [fN_eq, fN_eq] at h
          obtain ⟨Sn, h, hIn, hnh, hnn, hng⟩ := normK_ok h hI
          have hlookn : Sn.look = S.look := by show lookH Sn.hp = lookH S.hp; rw [hnh]
          obtain ⟨x0, t0, hx0, hT0⟩ := rdCars_ok0 h
          obtain ⟨hc0, ⟨h4⟩, hround⟩ := hx0
          rw [Bool.and_eq_true] at hc0
          obtain ⟨hcs, ht0⟩ := hc0
          obtain ⟨hT0, _⟩ := hT0 hcs
          obtain ⟨m', hI'⟩ := rehead hI.low hI.low0 hIn hcs ht0 hT0 (fun d hd => hng d (cars_in hcs d hd)) (fun _ _ _ _ => by rw [hlookn])
          refine wp_loop_by (fun (x : Ds L.cars) a w => L.inv x ∧ ∃ m Imm, Inv E (Sx.head L.cars S (dsts c) (t0.map (·.2)) x) m Imm a w) L.mu ?_ (x := x0) ⟨h4, m', Imm, hI'⟩
          rintro x a w ⟨hx, m, Imm, hIx⟩
          have hb := allDs_ok hround x hx
          rw [fSt_eq] at hb
          have hds : ∀ d sv, (d, sv) ∈ carsT L.cars S.next x → d ∈ dsts c := cars_slots hcs
          have getH : ∀ d, d ∉ dsts c → (Sx.head L.cars S (dsts c) (t0.map (·.2)) x).get d = S.get d := by
            intro d hd'
            have hg : (Sx.head L.cars S (dsts c) (t0.map (·.2)) x).get d = match lkN (carsT L.cars S.next x ++ (undefs (dsts c) ++ S.tp)) d with | some v => v | none => .undef := rfl
            rw [lkN_append, lkN_append] at hg
            have q1 : lkN (carsT L.cars S.next x) d = none := lkN_none.2 fun p hp e => hd' (e ▸ hds p.1 p.2 hp)
            rw [q1] at hg
            rcases undefs_lk (l := dsts c) (d := d) with ⟨q2, _⟩ | ⟨_, q2⟩
            · exact absurd q2 hd'
            · rw [q2] at hg; exact hg
          refine wpIn_mono (run_sound hT hΓ hm c E rd _ _ a w m Imm hr hb hd hIx) ?_
          rintro e a' w' ⟨S', m1, Imm1, hK, hI1, hA⟩
          have hA' : After S (dsts (.loop c)) S' := by
            obtain ⟨u, hu⟩ := hA.hp
            refine ⟨⟨u ++ (carsB L.cars S.next x ++ nones (t0.map (·.2))), ?_⟩, ?_, fun d hd' => (hA.get d hd').trans (getH d hd')⟩
            · rw [hu]; simp [Sx.headN]
            · have : S.next + 1024 ≤ S'.next := hA.next
              omega
          cases e with
          | normal =>
            obtain ⟨Sm, hK, hI1, hmh, hmn, hmg⟩ := normK_ok hK hI1
            have hlookm : Sm.look = S'.look := by show lookH Sm.hp = lookH S'.hp; rw [hmh]
            have hA : After (Sx.headN L.cars S.next (S.next + 1024) S (dsts c) (t0.map (·.2)) x) (dsts c) Sm := ⟨by rw [hmh]; exact hA.hp, by rw [hmn]; exact hA.next, fun d hd => (hmg d (cars_in hcs d hd)).trans (hA.get d hd)⟩
            obtain ⟨y, t, ⟨hok, hy, hlt⟩, hTy⟩ := rdCars_ok0 hK
            rw [Bool.and_eq_true] at hok
            obtain ⟨hok1, hok2⟩ := hok
            obtain ⟨hTy, _⟩ := hTy hcs
            obtain ⟨u, hu⟩ := hA.hp
            obtain ⟨m2, hI2⟩ := rehead (S := S) (S1 := Sm) hI.low hI.low0 hI1 hcs hok1 hTy (fun d hd' => (hA.get d hd').trans (getH d hd')) (by
              intro b hb h13 h14
              have hnew : ∀ p ∈ u, p.1 ≠ b := by
                intro p hp e
                unfold okHp at hok2
                rw [keysOf_eq, List.all_map] at hok2
                have htake : Sm.hp.take (lenN Sm.hp - lenN (Sx.headN L.cars S.next (S.next + 1024) S (dsts c) (t0.map (·.2)) x).hp) = u := by
                  rw [lenN_eq, lenN_eq, hu, List.length_append, Nat.add_sub_cancel]
                  exact List.take_left
                rw [htake] at hok2
                have := (List.all_eq_true.1 hok2) p hp
                simp only [Function.comp, Bool.or_eq_true, Nat.ble_eq, memN_iff] at this
                rcases this with h | h | h
                · omega
                · exact h13 (e ▸ h)
                · exact h14 (e ▸ h)
              have e1 : Sm.look b = (Sx.head L.cars S (dsts c) (t0.map (·.2)) x).look b := by
                show lookH Sm.hp b = _
                rw [hu, lookH_append]
                unfold upd
                rw [lkN_none.2 hnew]
                rfl
              rw [e1]
              have hg : (Sx.head L.cars S (dsts c) (t0.map (·.2)) x).look b = match lkN (carsB L.cars S.next x ++ (nones (t0.map (·.2)) ++ S.hp)) b with | some v => v | none => none := rfl
              rw [hg, lkN_append, lkN_append]
              have q1 : lkN (carsB L.cars S.next x) b = none := cars_blocks hcs hb h13
              have q3 : lkN (nones (t0.map (·.2))) b = none := by
                rcases nones_lk (l := t0.map (·.2)) (b := b) with ⟨q, _⟩ | ⟨_, q⟩
                · exact absurd q h14
                · exact q
              rw [q1, q3]
              rfl)
            exact ⟨y, ⟨hy, m2, Imm1, hI2⟩, hlt⟩
          | _ => exact ⟨S', m1, Imm1, hK, hI1, hA'⟩
        · rename_i n _
          refine wpIn_loop_rounds n ?_
          have : ∀ (n : Nat) (S1 : St) (a : Act) (w : World) (m : Nat → Place) (Imm : Nat → Prop), rounds n (run T Γ A c) K S1 → Inv E S1 m Imm a w → After S (dsts c) S1 → Code.roundsIn (fr rd) 0 P c (Post E S (dsts c) K) n a w := by
            intro n
            induction n with
            | zero => intro S1 a w m Imm h; exact h.elim
            | succ n ih =>
              intro S1 a w m Imm h hI hA
              have h : run T Γ A c S1 fun e S' => match e with
                | .normal => rounds n (run T Γ A c) K S'
                | e => K e S' := h
              rw [roundsIn_succ]
              refine wpIn_mono (run_sound hT hΓ hm c E rd S1 _ a w m Imm hr h hd hI) ?_
              rintro e a' w' ⟨S', m1, Imm1, hK, hI1, hA1⟩
              have hA2 := hA.trans hA1 (fun d h => h) (fun d h => h)
              cases e with
              | normal => exact ih S' a' w' m1 Imm1 hK hI1 hA2
              | _ => exact ⟨S', m1, Imm1, hK, hI1, hA2⟩
          exact this n S a w m Imm h hI (.refl _ _)
        · exact h.elim
  | .scope _, E, rd, S, K, a, w, m, Imm, hr, h, hd, hI => h.elim
  | .goto _, E, rd, S, K, a, w, m, Imm, hr, h, hd, hI => h.elim
  | .refuse _, E, rd, S, K, a, w, m, Imm, hr, h, hd, hI => h.elim
  | .rangeFunc g ps x y, E, rd, S, K, a, w, m, Imm, hr, h, hd, hI => by
    have h : atRange Γ A g ps x y (run T Γ A x) (run T Γ A y) S K := h
    obtain rfl : rd = none := hr.elim id fun h => by cases h
    refine range_wp hΓ (fun hx => ?_) (fun hy => ?_) h hd hI
    · exact fun E l S K a w m Imm h hd hI => run_sound hT hΓ hm x E (some l) S K a w m Imm (.inr hx) h hd hI
    · exact fun E l S K a w m Imm h hd hI => run_sound hT hΓ hm y E (some l) S K a w m Imm (.inr hy) h hd hI
end Go.Proofs.Ythbmllekbbfobaa.Sx

/-! A function as the evaluator runs it: its entry and its results. -/
namespace Go.Proofs.Ythbmllekbbfobaa.Sx
open Go
set_option linter.unusedVariables false
set_option linter.unusedSimpArgs false

def plainCS : List CS → Option (List SV)
  | [] => some []
  | .v x :: l => match plainCS l with
    | some r => some (.val x :: r)
    | none => none
  | .s _ _ :: _ => none
def resOf (T : TT) (S : St) : ResultVar → Option SV
  | .tmp t => some (S.get t)
  | .cell a t => match S.get a, lkN T t with
    | .ptr b 0, some ti => match S.look b with
      | some (.cells cs) => bif Nat.beq (lenN cs) ti.size then (bif isAggT ti then some (.agg cs) else match cs with | [x] => some x | _ => none) else none
      | some (.row _ k xs) => bif isAggT ti then match plainCS (xs.flatMap (enc k)) with
          | some l => bif Nat.beq (lenN l) ti.size then some (.agg l) else none
          | none => none
        else none
      | _ => none
    | _, _ => none
def resAll (T : TT) (S : St) : List ResultVar → Option (List SV)
  | [] => some []
  | r :: l => match resOf T S r, resAll T S l with
    | some s, some ss => some (s :: ss)
    | _, _ => none
def packV (vs : Array Value) : Value := if h : vs.size = 1 then vs[0] else .tuple vs
def packS : List SV → SV
  | [x] => x
  | l => .tup l
theorem pack_V {m : Nat → Place} {ss : List SV} {vs : Array Value} (h : Vs m ss vs.toList) : V m (packS ss) (packV vs) := by
  have hl := h.length
  unfold packV
  split
  · rename_i h1
    match ss, hl with
    | [x], _ =>
      cases vs with
      | mk l =>
      match l, h1 with
      | [v], _ => cases h with | cons _ _ _ _ h _ => exact h
    | [], e => simp at e; omega
    | x :: y :: l, e => simp at e; omega
  · rename_i h1
    match ss, hl, h with
    | [x], e, _ => simp at e; omega
    | [], _, h => exact .tup _ _ h
    | x :: y :: l, _, h => exact .tup _ _ h

variable {P : Program} {T : TT} {Γ : List (Nat × GC)} {A : Anns} {E : Env}

def resSem (tmps : Array Value) : ResultVar → Sem Value
  | .tmp t => pure (tmps.getD t undef)
  | .cell a t => do loadVar t (← asAddr (tmps.getD a undef))

theorem plainCS_ok {Imm : Nat → Prop} {w : World} {m : Nat → Place} : ∀ {cs : List CS} {l : List SV} {lst : List Value}, plainCS cs = some l → cs.length = lst.length → (∀ (j : Nat) (e : CS), cs[j]? = some e → ∃ v, lst[j]? = some v ∧ CV Imm w e v) → Vs m l lst
  | [], l, lst, h, hl, _ => by
    obtain rfl := Option.some.inj h
    cases lst with
    | nil => exact .nil
    | cons => simp at hl
  | .s _ _ :: _, l, lst, h, _, _ => by simp [plainCS] at h
  | .v x :: cs, l, lst, h, hl, hc => by
    simp only [plainCS] at h
    split at h
    · rename_i r hr
      obtain rfl := Option.some.inj h
      cases lst with
      | nil => simp at hl
      | cons v lst =>
        have h0 : v = x := by
          obtain ⟨v', h1, h2⟩ := hc 0 _ rfl
          simp at h1
          subst h1
          cases h2; rfl
        subst h0
        exact .cons _ _ _ _ (.val _) (plainCS_ok hr (by simpa using hl) (fun j e he => by simpa using hc (j + 1) e (by simpa using he)))
    · cases h
theorem resOf_run (hT : TOk P T) {S : St} {m : Nat → Place} {Imm : Nat → Prop} {a : Act} {w : World} (hI : Inv E S m Imm a w) {r : ResultVar} {s : SV} (h : resOf T S r = some s) : ∃ v, (resSem a.tmps r).run P w = .ok v w ∧ V m s v := by
  cases r with
  | tmp t => obtain rfl := Option.some.inj h; exact ⟨_, by simp [resSem], hI.live.slots t⟩
  | cell x t =>
    simp only [resOf] at h
    split at h
    · rename_i b ti hx hti
      have hs := hI.live.slots x
      rw [hx] at hs
      split at h
      · rename_i cs hb
        have hA := hT t ti hti
        obtain ⟨h0, arr, ty, h1, h2⟩ := hI.live.since.rel.hold b _ hb
        rw [beqN, lenN_eq] at h
        by_cases hl : cs.length = ti.size
        · rw [decide_eq_true hl] at h
          have hcase : (isAggT ti = true ∧ s = .agg cs) ∨ (isAggT ti = false ∧ cs = [s]) := by
            cases ha : isAggT ti with
            | true => rw [ha] at h; exact .inl ⟨rfl, (Option.some.inj h).symm⟩
            | false =>
              rw [ha] at h
              simp only [cond_true, cond_false] at h
              split at h
              · obtain rfl := Option.some.inj h; exact .inr ⟨rfl, rfl⟩
              · cases h
          obtain ⟨v, h4, h5⟩ := loaded (P := P) (w := w) hA (b := (m b).blk) (o := 0) (by rw [← h2.length]; exact hl) (fun j' v hv => by rw [Nat.zero_add, cell_row h1]; exact hv) h2 hcase
          refine ⟨v, ?_, h5⟩
          generalize e2 : a.tmps.getD x undef = va at hs
          have hva : va = .pointer (some ⟨(m b).blk, 0, none⟩) := by
            cases hs
            simp [h0]
          have : (resSem a.tmps (.cell x t)) = (do loadVar t (← asAddr (a.tmps.getD x undef))) := rfl
          rw [this]
          rw [e2, hva]
          simpa [Instr.loadAt, Instr.sureAddr, asAddr] using h4
        · rw [decide_eq_false hl] at h; cases h
      · rename_i own k xs hb
        have hA := hT t ti hti
        obtain ⟨p1, p2, p3, p4, _, _⟩ := hI.live.since.rel.hold b _ hb
        cases ha : isAggT ti with
        | false => rw [ha] at h; cases h
        | true =>
          rw [ha] at h
          simp only [cond_true] at h
          split at h
          · rename_i l hl
            rw [beqN, lenN_eq] at h
            by_cases hlen : l.length = ti.size
            · rw [decide_eq_true hlen] at h
              obtain rfl := Option.some.inj h
              obtain ⟨lst, l1, l2, l3⟩ := row_cells (Imm := Imm) (w := w) (p := m b) (k := k) (xs := xs) (o := (m b).off) (fun i j e h1 h2 => p4 i j e h1 h2)
              have hcs : (xs.flatMap (enc k)).length = lst.length := by rw [l1, flat_length]
              have hvs : Vs m l lst := plainCS_ok hl hcs l3
              obtain ⟨v, h4, h5⟩ := loaded (P := P) (w := w) hA (b := (m b).blk) (o := (m b).off + 0) (lst := lst) (by rw [← hvs.length]; exact hlen) (fun j' v hv => by simpa using l2 j' v hv) hvs (.inl ⟨ha, rfl⟩)
              refine ⟨v, ?_, h5⟩
              generalize e2 : a.tmps.getD x undef = va at hs
              have hva : va = .pointer (some ⟨(m b).blk, (m b).off + 0, none⟩) := by
                cases hs
                rfl
              have : (resSem a.tmps (.cell x t)) = (do loadVar t (← asAddr (a.tmps.getD x undef))) := rfl
              rw [this]
              rw [e2, hva]
              simpa [Instr.loadAt, Instr.sureAddr, asAddr] using h4
            · rw [decide_eq_false hlen] at h; cases h
          · cases h
      · cases h
    · cases h

theorem resAll_run (hT : TOk P T) {S : St} {m : Nat → Place} {Imm : Nat → Prop} {a : Act} {w : World} (hI : Inv E S m Imm a w) : ∀ {l : List ResultVar} {ss : List SV}, resAll T S l = some ss → ∃ vs, (l.mapM (resSem a.tmps)).run P w = .ok vs w ∧ Vs m ss vs
  | [], ss, h => by obtain rfl := Option.some.inj h; exact ⟨[], by simp, .nil⟩
  | r :: l, ss, h => by
    simp only [resAll] at h
    split at h
    · rename_i s ss' h1 h2
      obtain rfl := Option.some.inj h
      obtain ⟨v, h3, h4⟩ := resOf_run hT hI h1
      obtain ⟨vs, h5, h6⟩ := resAll_run hT hI h2
      exact ⟨v :: vs, by simp [List.mapM_cons, h3, h5], .cons _ _ _ _ h4 h6⟩
    · cases h
theorem results_run (hT : TOk P T) {S : St} {m : Nat → Place} {Imm : Nat → Prop} {a : Act} {w : World} (hI : Inv E S m Imm a w) {fn : Func} {ss : List SV} (h : resAll T S fn.results.toList = some ss) :
    ∃ vs : Array Value, (results fn a.tmps).run P w = .ok (packV vs) w ∧ Vs m ss vs.toList := by
  obtain ⟨vs, h1, h2⟩ := resAll_run hT hI h
  refine ⟨vs.toArray, ?_, by simpa using h2⟩
  have e : results fn a.tmps = (do let vs ← fn.results.mapM (resSem a.tmps); pure (packV vs)) := by
    unfold results packV
    congr 1
  rw [e, Array.mapM_eq_mapM_toList]
  simp [h1]

/-- What is so at a function's end. -/
def Ends (T : TT) (rs : List ResultVar) (K : List SV → St → Prop) (e : Exit) (S : St) : Prop := match e with
  | .normal | .ret => match resAll T S rs with
    | some ss => K ss S
    | none => Fail "results"
  | _ => Fail "an end that is no return"

theorem marks_put {lo : Nat} {Imm : Nat → Prop} {w : World} {D : Nat} (o : Obj) : ∀ {ds : List Deferred}, Marks lo Imm w ds → (∀ D', ({ target := .collected D', args := #[] } : Deferred) ∈ ds → D' ≠ D) → Marks lo Imm (w.putObj D o) ds
  | [], _, _ => trivial
  | d :: ds, ⟨⟨D', h1, h2, h3, h4, h5⟩, hr⟩, h => ⟨⟨D', h1, (World.putObj_heap_other (h D' (by rw [h1]; simp))).trans h2, h3, h4, h5⟩, marks_put o hr fun D'' hD => h D'' (List.mem_cons_of_mem _ hD)⟩
theorem leave_ok {lo : Nat} {Imm : Nat → Prop} {fn : Func} {tmps : Array Value} {R : Ending → World → Prop} (G : World → Prop) (hend : ∀ W, G W → ∃ v, (results fn tmps).run P W = .ok v W ∧ R (.returned v) W)
    (hput : ∀ W D, G W → lo ≤ D → ¬ Imm D → W.heap[D]? = some (.deferred (some [])) → G (W.putObj D (.deferred none))) : ∀ (ds : List Deferred) (W : World), Marks lo Imm W ds → G W → LeavesInM Fence.wide 0 P fn tmps R ds .returning W
  | [], W, _, h => hend W h
  | d :: ds, W, ⟨⟨D, h1, h2, h3, h4, h5⟩, hr⟩, hG => ⟨by simp, .inl ⟨D, _, by rw [h1], run_takeDeferred h2, leave_ok G hend hput ds _ (marks_put _ hr h5) (hput W D hG h3 h4 h2)⟩⟩

theorem calls_run (hT : TOk P T) (hΓ : GOks P Γ) (hm : P.follows .mixedOrders = true) {f : FuncId} {fn : Func} {c : Code} (hf : P.funcs[f]? = some fn) (hb : fn.body = some c) (hw : E.wide = fn.ntmps) (hlo : E.lo = E.w0.heap.size) (hd : (dsts c).all (fun d => Nat.blt d fn.ntmps) = true) {S : St} {K : List SV → St → Prop}
    (h : run T Γ A c S (Ends T fn.results.toList K)) {vals : Array Value} {w : World} {m : Nat → Place} {Imm : Nat → Prop} (hI : Inv E S m Imm { tmps := vals ++ Array.replicate (fn.ntmps - vals.size) undef, defers := [] } w) :
    Calls P f vals w fun e w' => ∃ S' m' Imm' a' ss vs, e = .returned (packV vs) ∧ K ss S' ∧ Inv E S' m' Imm' a' w' ∧ (∃ u, S'.hp = u ++ S.hp) ∧ Vs m' ss vs.toList := by
  refine callsIn_wide.1 (callsIn_of_wp_marks (n := 0) hf hb trivial ?_)
  refine wpIn_mono (run_sound hT hΓ hm c E none S _ _ w m Imm (.inl rfl) h (fun d hd' => ?_) hI) ?_
  · have := (List.all_eq_true.1 hd) d hd'
    rw [Nat.blt_eq] at this
    rw [hw]; exact this
  · rintro e a' w' ⟨S', m', Imm', hK, hI', hA⟩
    have key : ∀ (hE : Ends T fn.results.toList K .normal S'), LeavesInM Fence.wide 0 P fn a'.tmps (fun e w' => ∃ S' m' Imm' a' ss vs, e = .returned (packV vs) ∧ K ss S' ∧ Inv E S' m' Imm' a' w' ∧ (∃ u, S'.hp = u ++ S.hp) ∧ Vs m' ss vs.toList) a'.defers .returning w' := by
      intro hE
      unfold Ends at hE
      simp only at hE
      split at hE
      · rename_i ss hss
        refine leave_ok (lo := E.lo) (Imm := Imm') (fun W => Inv E S' m' Imm' { tmps := a'.tmps, defers := [] } W) (fun W hW => ?_) (fun W D hW h1 h2 h3 => ?_) a'.defers w' hI'.live.defers ⟨⟨hI'.live.since, hI'.live.slots, hI'.live.size, trivial, hI'.live.same⟩, hI'.low, hI'.low0, hI'.kn⟩
        · obtain ⟨vs, h1, h2⟩ := results_run hT hW hss
          exact ⟨_, h1, S', m', Imm', _, ss, vs, rfl, hE, hW, hA.hp, h2⟩
        · exact ⟨⟨hW.live.since.turns (turns_put W D _) (fun r hr _ => by subst hr; exact book_of h3 h2) (fun r hr => by subst hr; rw [← hlo]; exact h1), hW.live.slots, hW.live.size, trivial, hW.live.same⟩, hW.low, hW.low0, hW.kn⟩
      · exact hE.elim
    cases e with
    | normal => exact key hK
    | ret => exact key hK
    | _ => exact hK.elim
end Go.Proofs.Ythbmllekbbfobaa.Sx

/-! Contracts: what a function makes of its arguments and of the blocks behind them, in numbers of its own: 0, 1, .. as they are met; new ones from 2000 on. -/
namespace Go.Proofs.Ythbmllekbbfobaa.Sx
open Go
set_option linter.unusedVariables false
set_option linter.unusedSimpArgs false

def ixN : List Nat → Nat → Nat
  | [], _ => 0
  | a :: l, b => bif Nat.beq a b then 0 else ixN l b + 1
def atN : List Nat → Nat → Nat
  | [], _ => 0
  | a :: _, 0 => a
  | _ :: l, n + 1 => atN l n
def collect (H : VH) : Nat → List Nat → List Nat → List Nat
  | 0, _, acc => acc
  | _ + 1, [], acc => acc
  | n + 1, b :: q, acc => bif memN b acc then collect H n q acc else match H b with
    | some (.cells cs) => collect H n (q ++ idsL cs) (acc ++ [b])
    | _ => collect H n q (acc ++ [b])
def blocksOf (H : VH) (f : Nat → Nat) : List Nat → Nat → List (Nat × VB)
  | [], _ => []
  | b :: l, i => match H b with
    | some vb => (i, vb.ren f) :: blocksOf H f l (i + 1)
    | none => blocksOf H f l (i + 1)
def idsAt (H : VH) (b : Nat) : List Nat := match H b with
  | some (.cells cs) => idsL cs
  | _ => []
def okSig (H : VH) (args : List SV) (key : Nat) (sig : List Nat) : Bool :=
  (idsL args ++ sig.flatMap (idsAt H)).all (fun b => memN b sig) && (nodupN sig && (Nat.ble (lenN sig) 64 && sig.all (fun b => !(Nat.ble key b && Nat.blt b (key + 50)))))
def gN (sig : List Nat) (key j : Nat) : Nat := bif Nat.blt j (lenN sig) then atN sig j else key + (j - 2000)
def okNew (sig : List Nat) (l : List Nat) : Bool := l.all fun j => Nat.blt j (lenN sig) || (Nat.ble 2000 j && Nat.blt j 2050)
def renU (g : Nat → Nat) : List (Nat × Option VB) → List (Nat × Option VB)
  | [] => []
  | (b, none) :: l => (g b, none) :: renU g l
  | (b, some v) :: l => (g b, some (v.ren g)) :: renU g l
def renOk (sig : List Nat) (key : Nat) (nu : List (Nat × Option VB)) (s : SV) (u : List (Nat × Option VB)) (c : SV → List (Nat × Option VB) → R) : R :=
  bif okNew sig s.ids && okNew sig (idsU u) then c (s.ren (gN sig key)) (renU (gN sig key) u ++ nu) else .fail "numbers of a contract"
noncomputable def renR (sig : List Nat) (key : Nat) (nu : List (Nat × Option VB)) (r : R) : R :=
  R.rec (motive := fun _ => R) (fun s u => renOk sig key nu s u .ok) (fun d s u => renOk sig key nu s u (.vc d)) (fun t _ _ a b => .br t a b) (fun w => .fail w) r
abbrev Spec := List SV → List (Nat × VB) → R
noncomputable def lift (ks : List (Option RK)) (f : Spec) : GC := fun args H key => match args with
  | .fn (.yield _) _ _ :: _ => .fail "no call"
  | args => fL args fun args => match nilCs ks args (key + 50) with
  | (args1, nu) => fL args1 fun args1 => fNs (collect (upd nu H) 400 (idsL args1) []) fun sig => bif okSig (upd nu H) args1 key sig && (Nat.beq (lenN args) (lenN ks) && Nat.ble (lenN ks) 13) then
        renR sig key nu (f (renL (ixN sig) args1) (blocksOf (upd nu H) (ixN sig) sig 0))
      else .fail "arguments"

/-! What is so at the end: the results and blocks are those that are told. -/
def mtV (x y : Value) (K : Prop → Prop) : Prop := match x, y with
  | .int k a, .int k' b => if k' = k then K (b = a) else Fail "a result of another kind"
  | .bool a, .bool b => K (b = a)
  | .string a, .string b => K (b = a)
  | x, y => K (y = x)
def bindN (t : Ren) (j b : Nat) (K : Ren → Prop) : Prop :=
  bif Nat.blt j 1024 then (bif Nat.beq j b then K t else Fail "another block") else match lkN t j with
    | some c => bif Nat.beq c b then K t else Fail "another block"
    | none => K ((j, b) :: t)
mutual
/-- x: what is told; y: what is there. p: what is to be shown. -/
def mt : SV → SV → Ren → Prop → (Ren → Prop → Prop) → Prop
  | .val x, .val y, t, p, K => mtV x y fun q => K t (q ∧ p)
  | .ptr j c, .ptr b c', t, p, K => bif Nat.beq c c' then bindN t j b fun t => K t p else Fail "another cell"
  | .elt j i c, .elt b i' c', t, p, K => bif Nat.beq c c' then bindN t j b fun t => K t (i' = i ∧ p) else Fail "another cell"
  | .slF j, .slF b, t, p, K => bindN t j b fun t => K t p
  | .slP j i n, .slP b i' n', t, p, K => bindN t j b fun t => K t ((i' = i ∧ n' = n) ∧ p)
  | .slC j n, .slC b n', t, p, K => bif Nat.beq n n' then bindN t j b fun t => K t p else Fail "another length"
  | .agg l, .agg l', t, p, K => mtL l l' t p K
  | .tup l, .tup l', t, p, K => mtL l l' t p K
  | .fn f a c, .fn f' a' c', t, p, K => f' = f ∧ mtL a a' t p fun t p => mtL c c' t p K
  | _, _, _, _, _ => Fail "a result of another form"
def mtL : List SV → List SV → Ren → Prop → (Ren → Prop → Prop) → Prop
  | [], [], t, p, K => K t p
  | x :: l, y :: l', t, p, K => mt x y t p fun t p => mtL l l' t p K
  | _, _, _, _, _ => Fail "how many?"
end
def mtB (S : St) (vb : VB) (b : Nat) (t : Ren) (p : Prop) (K : Ren → Prop → Prop) : Prop := match vb, S.look b with
  | .cells cs, some (.cells cs') => mtL cs cs' t p K
  | .row o k xs, some (.row o' k' xs') => match castK k k' xs' with
    | some ys => K t ((o' = o ∧ ys = xs) ∧ p)
    | none => Fail "a row of another kind"
  | _, _ => Fail "a block of another form"
def mtU (S : St) : List (Nat × Option VB) → Ren → Prop → (Ren → Prop → Prop) → Prop
  | [], t, p, K => K t p
  | (_, none) :: l, t, p, K => mtU S l t p K
  | (j, some vb) :: l, t, p, K => bif Nat.blt j 1024 then mtB S vb j t p fun t p => mtU S l t p K else match lkN t j with
    | some b => mtB S vb b t p fun t p => mtU S l t p K
    | none => Fail "a block that nothing leads to"
def imgs (t : Ren) : List (Nat × Option VB) → List Nat
  | [] => []
  | (_, none) :: l => imgs t l
  | (j, some _) :: l => tl t j :: imgs t l
def okEnd (u : List (Nat × Option VB)) (t : Ren) (S : St) (old : Nat) : Bool :=
  nodupN (imgs t u) && (t.all (fun p => Nat.ble 1024 p.2 || memN p.2 (keysOf u)) && (keysOf (S.hp.take (lenN S.hp - old))).all (fun b => Nat.ble 1024 b || memN b (keysOf u)))
def unpack (ss : List SV) (s : SV) : List SV := match ss with
  | [_] => [s]
  | _ => match s with
    | .tup l => l
    | _ => [.undef]
/-- The results are what is told. -/
structure Res (p : Prop) : Prop where
  ok : p
/-- Where a part of a row is told and a whole one is there: the whole as a part; and the other way round. -/
def fix1 (S : St) (x y : SV) : SV := match x, y with
  | .slP _ _ _, .slF b => match S.look b with
    | some (.row _ _ xs) => .slP b 0 xs.length
    | _ => .slF b
  | .slF _, .slP b 0 n => match S.look b with
    | some (.row _ _ _) => .slF b
    | _ => .slP b 0 n
  | _, y => y
/-- What is to be shown for that. -/
def fixK (S : St) : List SV → List SV → Prop → (Prop → Prop) → Prop
  | x :: l, y :: r, p, K => match x, y with
    | .slF _, .slP b 0 n => match S.look b with
      | some (.row _ _ xs) => fixK S l r (n = xs.length ∧ p) K
      | _ => fixK S l r p K
    | _, _ => fixK S l r p K
  | _, _, p, K => K p
def fixL (S : St) : List SV → List SV → List SV
  | x :: l, y :: r => fix1 S x y :: fixL S l r
  | _, r => r
def fitsEnd (s : SV) (u : List (Nat × Option VB)) (old : Nat) (ss : List SV) (S : St) : Prop :=
  fixK S (unpack ss s) ss True fun p0 => fL (fixL S (unpack ss s) ss) fun ss => mtL (unpack ss s) ss [] p0 fun t p => mtU S u t p fun t p => okEnd u t S old = true ∧ Res p

def somesV : List (Nat × VB) → List (Nat × Option VB)
  | [] => []
  | (b, v) :: l => (b, some v) :: somesV l
def number (i : Nat) : List SV → List (Nat × SV)
  | [] => []
  | s :: l => (i, s) :: number (i + 1) l
def start (args : List SV) (hp : List (Nat × VB)) : St := ⟨number 0 args, somesV hp, 1024, []⟩

/-- What a part of a slice is known to be. -/
def fitS (hp : List (Nat × VB)) : SV → Prop
  | .slP b i n => match lkN hp b with
    | some (.row _ _ xs) => n = 0 ∨ i + n ≤ xs.length
    | _ => True
  | _ => True
def Fit (hp : List (Nat × VB)) : List SV → Prop
  | [] => True
  | x :: l => fitS hp x ∧ Fit hp l

/-! What that says. -/
theorem mtV_ok {x y : Value} {K : Prop → Prop} (h : mtV x y K) : ∃ q, K q ∧ (q → y = x) := by
  unfold mtV at h
  split at h
  · split at h
    · rename_i e; exact ⟨_, h, fun q => by rw [e, q]⟩
    · exact h.elim
  · exact ⟨_, h, fun q => by rw [q]⟩
  · exact ⟨_, h, fun q => by rw [q]⟩
  · exact ⟨_, h, id⟩
def Low (t : Ren) : Prop := ∀ p ∈ t, 1024 ≤ p.1
theorem Low.tl {t : Ren} (h : Low t) {b : Nat} (hb : b < 1024) : tl t b = b := by
  unfold Sx.tl
  have : lkN t b = none := lkN_none.2 fun p hp e => by have := h p hp; omega
  rw [this]
/-- A number that is told, or an old one. -/
def Bound (t : Ren) (b : Nat) : Prop := b < 1024 ∨ ∃ c, lkN t b = some c
theorem Bound.ext {t t' : Ren} (h : Ext t t') {b : Nat} (hb : Bound t b) : Bound t' b := hb.imp id fun ⟨c, hc⟩ => ⟨c, h _ _ hc⟩
theorem bindN_ok {t : Ren} {j b : Nat} {K : Ren → Prop} (hl : Low t) (h : bindN t j b K) : ∃ t', K t' ∧ Ext t t' ∧ Low t' ∧ (∀ t'', Ext t' t'' → Low t'' → tl t'' j = b) ∧ Bound t' j := by
  unfold bindN at h
  cases hj : Nat.blt j 1024 with
  | true =>
    rw [hj] at h
    rw [Nat.blt_eq] at hj
    rw [beqN] at h
    by_cases e : j = b
    · rw [decide_eq_true e] at h
      exact ⟨t, h, .refl t, hl, fun t'' _ h2 => by rw [h2.tl hj, e], .inl hj⟩
    · rw [decide_eq_false e] at h; exact h.elim
  | false =>
    rw [hj] at h
    have hj' : 1024 ≤ j := by
      have : ¬ j < 1024 := by rw [← Nat.blt_eq, hj]; simp
      omega
    simp only [cond_false] at h
    split at h
    · rename_i c hc
      rw [beqN] at h
      by_cases e : c = b
      · rw [decide_eq_true e] at h
        exact ⟨t, h, .refl t, hl, fun t'' h1 _ => by rw [h1.tl hc, e], .inr ⟨c, hc⟩⟩
      · rw [decide_eq_false e] at h; exact h.elim
    · rename_i hc
      have hcb : lkN ((j, b) :: t) j = some b := by simp [lkN]
      exact ⟨_, h, .cons hc, fun p hp => by
        rcases List.mem_cons.1 hp with rfl | hp
        · exact hj'
        · exact hl p hp, fun t'' h1 _ => h1.tl hcb, .inr ⟨b, hcb⟩⟩
mutual
theorem mt_ok : ∀ (s : SV) {x : SV} {t : Ren} {p : Prop} {K : Ren → Prop → Prop}, Low t → mt s x t p K → ∃ t' q, K t' q ∧ Ext t t' ∧ Low t' ∧ (q → p ∧ ∀ t'', Ext t' t'' → Low t'' → s.ren (tl t'') = x) ∧ ∀ b ∈ s.ids, Bound t' b
  | .undef, x, t, p, K, hl, h => by cases x <;> exact h.elim
  | .val v, x, t, p, K, hl, h => by
    cases x with
    | val y =>
      obtain ⟨q, h1, h2⟩ := mtV_ok (show mtV v y fun q => K t (q ∧ p) from h)
      exact ⟨t, q ∧ p, h1, .refl t, hl, fun hq => ⟨hq.2, fun _ _ _ => by rw [h2 hq.1]; rfl⟩, fun b hb => by simp [SV.ids] at hb⟩
    | _ => exact h.elim
  | .ptr j c, x, t, p, K, hl, h => by
    cases x with
    | ptr b c' =>
      have h : bif Nat.beq c c' then bindN t j b (fun t => K t p) else Fail "another cell" := h
      rw [beqN] at h
      by_cases e : c = c'
      · rw [decide_eq_true e] at h
        have hh : bindN t j b (fun t => K t p) := h
        obtain ⟨t', h1, h2, h3, h4, h5⟩ := bindN_ok hl hh
        exact ⟨t', p, h1, h2, h3, fun hp => ⟨hp, fun t'' q1 q2 => by simp only [SV.ren]; rw [h4 t'' q1 q2, e]⟩, fun b' hb => by simp only [SV.ids, List.mem_singleton] at hb; rw [hb]; exact h5⟩
      · rw [decide_eq_false e] at h; exact h.elim
    | _ => exact h.elim
  | .elt j i c, x, t, p, K, hl, h => by
    cases x with
    | elt b i' c' =>
      have h : bif Nat.beq c c' then bindN t j b (fun t => K t (i' = i ∧ p)) else Fail "another cell" := h
      rw [beqN] at h
      by_cases e : c = c'
      · rw [decide_eq_true e] at h
        have hh : bindN t j b (fun t => K t (i' = i ∧ p)) := h
        obtain ⟨t', h1, h2, h3, h4, h5⟩ := bindN_ok hl hh
        exact ⟨t', _, h1, h2, h3, fun hp => ⟨hp.2, fun t'' q1 q2 => by simp only [SV.ren]; rw [h4 t'' q1 q2, e, hp.1]⟩, fun b' hb => by simp only [SV.ids, List.mem_singleton] at hb; rw [hb]; exact h5⟩
      · rw [decide_eq_false e] at h; exact h.elim
    | _ => exact h.elim
  | .slF j, x, t, p, K, hl, h => by
    cases x with
    | slF b =>
      obtain ⟨t', h1, h2, h3, h4, h5⟩ := bindN_ok hl (show bindN t j b (fun t => K t p) from h)
      exact ⟨t', p, h1, h2, h3, fun hp => ⟨hp, fun t'' q1 q2 => by simp only [SV.ren]; rw [h4 t'' q1 q2]⟩, fun b' hb => by simp only [SV.ids, List.mem_singleton] at hb; rw [hb]; exact h5⟩
    | _ => exact h.elim
  | .slP j i n, x, t, p, K, hl, h => by
    cases x with
    | slP b i' n' =>
      obtain ⟨t', h1, h2, h3, h4, h5⟩ := bindN_ok hl (show bindN t j b (fun t => K t ((i' = i ∧ n' = n) ∧ p)) from h)
      exact ⟨t', _, h1, h2, h3, fun hp => ⟨hp.2, fun t'' q1 q2 => by simp only [SV.ren]; rw [h4 t'' q1 q2, hp.1.1, hp.1.2]⟩, fun b' hb => by simp only [SV.ids, List.mem_singleton] at hb; rw [hb]; exact h5⟩
    | _ => exact h.elim
  | .slC j n, x, t, p, K, hl, h => by
    cases x with
    | slC b n' =>
      have h : (bif Nat.beq n n' then bindN t j b fun t => K t p else Fail "another length") := h
      rw [beqN] at h
      by_cases e : n = n'
      · rw [decide_eq_true e] at h
        obtain ⟨t', h1, h2, h3, h4, h5⟩ := bindN_ok hl (show bindN t j b (fun t => K t p) from h)
        exact ⟨t', p, h1, h2, h3, fun hp => ⟨hp, fun t'' q1 q2 => by simp only [SV.ren]; rw [h4 t'' q1 q2, e]⟩, fun b' hb => by simp only [SV.ids, List.mem_singleton] at hb; rw [hb]; exact h5⟩
      · rw [decide_eq_false e] at h; exact h.elim
    | _ => exact h.elim
  | .agg l, x, t, p, K, hl, h => by
    cases x with
    | agg l' =>
      obtain ⟨t', q, h1, h2, h3, h4, h5⟩ := mtL_ok l hl (show mtL l l' t p K from h)
      exact ⟨t', q, h1, h2, h3, fun hq => ⟨(h4 hq).1, fun t'' q1 q2 => by simp only [SV.ren]; rw [(h4 hq).2 t'' q1 q2]⟩, by simpa [SV.ids] using h5⟩
    | _ => exact h.elim
  | .tup l, x, t, p, K, hl, h => by
    cases x with
    | tup l' =>
      obtain ⟨t', q, h1, h2, h3, h4, h5⟩ := mtL_ok l hl (show mtL l l' t p K from h)
      exact ⟨t', q, h1, h2, h3, fun hq => ⟨(h4 hq).1, fun t'' q1 q2 => by simp only [SV.ren]; rw [(h4 hq).2 t'' q1 q2]⟩, by simpa [SV.ids] using h5⟩
    | _ => exact h.elim
  | .fn f a c, x, t, p, K, hl, h => by
    cases x with
    | fn f' a' c' =>
      obtain ⟨rfl, h⟩ : f' = f ∧ mtL a a' t p fun t p => mtL c c' t p K := h
      obtain ⟨t1, r1, h1, h2, h3, h4, h5⟩ := mtL_ok a hl h
      obtain ⟨t2, r2, g1, g2, g3, g4, g5⟩ := mtL_ok c h3 h1
      refine ⟨t2, r2, g1, h2.trans g2, g3, fun hq => ⟨(h4 (g4 hq).1).1, fun t'' q1 q2 => by simp only [SV.ren]; rw [(h4 (g4 hq).1).2 t'' (g2.trans q1) q2, (g4 hq).2 t'' q1 q2]⟩, fun b hb => ?_⟩
      simp only [SV.ids, List.mem_append] at hb
      rcases hb with hb | hb
      · exact (h5 b hb).ext g2
      · exact g5 b hb
    | _ => exact h.elim
theorem mtL_ok : ∀ (l : List SV) {l' : List SV} {t : Ren} {p : Prop} {K : Ren → Prop → Prop}, Low t → mtL l l' t p K → ∃ t' q, K t' q ∧ Ext t t' ∧ Low t' ∧ (q → p ∧ ∀ t'', Ext t' t'' → Low t'' → renL (tl t'') l = l') ∧ ∀ b ∈ idsL l, Bound t' b
  | [], l', t, p, K, hl, h => by
    cases l' with
    | nil => exact ⟨t, p, h, .refl t, hl, fun hp => ⟨hp, fun _ _ _ => rfl⟩, fun b hb => by simp [idsL] at hb⟩
    | cons y l' => exact h.elim
  | s :: l, l', t, p, K, hl, h => by
    cases l' with
    | nil => exact h.elim
    | cons y l' =>
      obtain ⟨t1, r1, h1, h2, h3, h4, h5⟩ := mt_ok s hl (show mt s y t p fun t p => mtL l l' t p K from h)
      obtain ⟨t2, r2, g1, g2, g3, g4, g5⟩ := mtL_ok l h3 h1
      refine ⟨t2, r2, g1, h2.trans g2, g3, fun hq => ⟨(h4 (g4 hq).1).1, fun t'' q1 q2 => by simp only [renL]; rw [(h4 (g4 hq).1).2 t'' (g2.trans q1) q2, (g4 hq).2 t'' q1 q2]⟩, fun b hb => ?_⟩
      simp only [idsL, List.mem_append] at hb
      rcases hb with hb | hb
      · exact (h5 b hb).ext g2
      · exact g5 b hb
end
theorem mtB_ok {S : St} {vb : VB} {b : Nat} {t : Ren} {p : Prop} {K : Ren → Prop → Prop} (hl : Low t) (h : mtB S vb b t p K) : ∃ t' q, K t' q ∧ Ext t t' ∧ Low t' ∧ (q → p ∧ ∀ t'', Ext t' t'' → Low t'' → S.look b = some (vb.ren (tl t''))) ∧ ∀ x ∈ vb.ids, Bound t' x := by
  unfold mtB at h
  split at h
  · rename_i cs cs' hb
    obtain ⟨t', q, h1, h2, h3, h4, h5⟩ := mtL_ok cs hl h
    exact ⟨t', q, h1, h2, h3, fun hq => ⟨(h4 hq).1, fun t'' q1 q2 => by rw [hb]; simp only [VB.ren]; rw [(h4 hq).2 t'' q1 q2]⟩, h5⟩
  · rename_i o k xs o' k' xs' hb
    split at h
    · rename_i ys hk
      obtain ⟨rfl, e⟩ := castK_some hk
      simp only at e
      subst e
      exact ⟨t, _, h, .refl t, hl, fun hq => ⟨hq.2, fun _ _ _ => by rw [hb, hq.1.1, hq.1.2]; rfl⟩, fun x hx => by simp [VB.ids] at hx⟩
    · exact h.elim
  · exact h.elim
theorem mtU_ok {S : St} : ∀ {u : List (Nat × Option VB)} {t : Ren} {p : Prop} {K : Ren → Prop → Prop}, Low t → mtU S u t p K → ∃ t' q, K t' q ∧ Ext t t' ∧ Low t' ∧ (q → p ∧ ∀ b vb, (b, some vb) ∈ u → (∀ t'', Ext t' t'' → Low t'' → S.look (tl t'' b) = some (vb.ren (tl t''))) ∧ Bound t' b ∧ ∀ x ∈ vb.ids, Bound t' x)
  | [], t, p, K, hl, h => ⟨t, p, h, .refl t, hl, fun hp => ⟨hp, fun b vb hb => by simp at hb⟩⟩
  | (j, none) :: u, t, p, K, hl, h => by
    obtain ⟨t', q, h1, h2, h3, h4⟩ := mtU_ok (u := u) hl (show mtU S u t p K from h)
    exact ⟨t', q, h1, h2, h3, fun hq => ⟨(h4 hq).1, fun b vb hb => (h4 hq).2 b vb (by simpa using hb)⟩⟩
  | (j, some vb) :: u, t, p, K, hl, h => by
    unfold mtU at h
    have main : ∀ b, (∀ t'', Ext t t'' → Low t'' → tl t'' j = b) → Bound t j → mtB S vb b t p (fun t p => mtU S u t p K) → ∃ t' q, K t' q ∧ Ext t t' ∧ Low t' ∧ (q → p ∧ ∀ b vb', (b, some vb') ∈ (j, some vb) :: u → (∀ t'', Ext t' t'' → Low t'' → S.look (tl t'' b) = some (vb'.ren (tl t''))) ∧ Bound t' b ∧ ∀ x ∈ vb'.ids, Bound t' x) := by
      intro b hb hj h
      obtain ⟨t1, r1, h1, h2, h3, h4, h5⟩ := mtB_ok hl h
      obtain ⟨t2, r2, g1, g2, g3, g4⟩ := mtU_ok h3 h1
      refine ⟨t2, r2, g1, h2.trans g2, g3, fun hq => ⟨(h4 (g4 hq).1).1, fun b' vb' hb' => ?_⟩⟩
      rcases List.mem_cons.1 hb' with hb' | hb'
      · cases hb'
        exact ⟨fun t'' q1 q2 => by rw [hb t'' (h2.trans (g2.trans q1)) q2]; exact (h4 (g4 hq).1).2 t'' (g2.trans q1) q2, (hj.ext h2).ext g2, fun x hx => (h5 x hx).ext g2⟩
      · exact (g4 hq).2 b' vb' hb'
    cases hj : Nat.blt j 1024 with
    | true =>
      rw [hj] at h
      rw [Nat.blt_eq] at hj
      exact main j (fun t'' _ q2 => q2.tl hj) (.inl hj) h
    | false =>
      rw [hj] at h
      simp only [cond_false] at h
      split at h
      · rename_i b hb
        exact main b (fun t'' q1 _ => q1.tl hb) (.inr ⟨b, hb⟩) h
      · exact h.elim

theorem imgs_inj {t : Ren} : ∀ {u : List (Nat × Option VB)} {b b' : Nat} {v v' : VB}, (imgs t u).Nodup → (b, some v) ∈ u → (b', some v') ∈ u → tl t b = tl t b' → b = b'
  | [], b, b', v, v', _, h, _, _ => by simp at h
  | (j, none) :: u, b, b', v, v', hn, h, h', e => imgs_inj (u := u) hn (by simpa using h) (by simpa using h') e
  | (j, some w) :: u, b, b', v, v', hn, h, h', e => by
    have mem : ∀ {x : Nat} {y : VB} {l : List (Nat × Option VB)}, (x, some y) ∈ l → tl t x ∈ imgs t l := by
      intro x y l
      induction l with
      | nil => intro h; simp at h
      | cons p l ih =>
        intro h
        obtain ⟨q, o⟩ := p
        cases o with
        | none => exact ih (by simpa using h)
        | some o =>
          rcases List.mem_cons.1 h with h | h
          · cases h; simp [imgs]
          · simp only [imgs, List.mem_cons]; exact .inr (ih h)
    simp only [imgs, List.nodup_cons] at hn
    rcases List.mem_cons.1 h with h | h <;> rcases List.mem_cons.1 h' with h' | h'
    · cases h; cases h'; rfl
    · cases h; exact absurd (e ▸ mem h') hn.1
    · cases h'; exact absurd (e ▸ mem h) hn.1
    · exact imgs_inj hn.2 h h' e

/-- Parts that are told as whole rows are whole. -/
def fixH (S : St) : List SV → List SV → Prop
  | x :: l, y :: r => (match x, y with
    | .slF _, .slP b 0 n => ∀ o k xs, S.look b = some (.row o k xs) → n = xs.length
    | _, _ => True) ∧ fixH S l r
  | _, _ => True
theorem fixK_ok {S : St} : ∀ (l r : List SV) {p : Prop} {K : Prop → Prop}, fixK S l r p K → ∃ q, K q ∧ (q → p ∧ fixH S l r)
  | [], r, p, K, h => by unfold fixK at h; exact ⟨p, h, fun hp => ⟨hp, by unfold fixH; trivial⟩⟩
  | x :: l, [], p, K, h => ⟨p, h, fun hp => ⟨hp, trivial⟩⟩
  | x :: l, y :: r, p, K, h => by
    unfold fixK at h
    unfold fixH
    split at h
    · rename_i b n
      split at h
      · rename_i o k xs hb
        obtain ⟨q, h1, h2⟩ := fixK_ok l r h
        refine ⟨q, h1, fun hq => ⟨(h2 hq).1.2, fun o' k' xs' hb' => ?_, (h2 hq).2⟩⟩
        rw [hb] at hb'
        cases hb'
        exact (h2 hq).1.1
      · rename_i hno
        obtain ⟨q, h1, h2⟩ := fixK_ok l r h
        exact ⟨q, h1, fun hq => ⟨(h2 hq).1, fun o k xs hb => absurd hb (hno o k xs), (h2 hq).2⟩⟩
    · rename_i hne
      obtain ⟨q, h1, h2⟩ := fixK_ok l r h
      exact ⟨q, h1, fun hq => ⟨(h2 hq).1, trivial, (h2 hq).2⟩⟩
theorem fix1_ok {m : Nat → Place} {Imm : Nat → Prop} {S : St} {w : World} (hR : Rel m Imm S.look w) (x : SV) {y : SV} {v : Value} (hC : match x, y with | .slF _, .slP b 0 n => ∀ o k xs, S.look b = some (.row o k xs) → n = xs.length | _, _ => True) (h : V m y v) : V m (fix1 S x y) v := by
  unfold fix1
  split
  · rename_i b
    split
    · rename_i own k xs hb
      obtain ⟨_, p2, _⟩ := hR.hold b _ hb
      cases h with
      | slF _ c h1 h2 =>
        have := V.slP (m := m) b 0 xs.length c (by omega) (by omega) (by omega) (by omega)
        rw [Nat.zero_mul, Nat.add_zero] at this
        rwa [p2]
      | slF0 _ ad h1 =>
        rw [← p2, h1]
        exact .slP0 b 0 ad (by omega)
    · exact h
  · rename_i b n
    split
    · rename_i own k xs hb
      have hn : n = xs.length := hC _ _ _ hb
      obtain ⟨_, p2, _⟩ := hR.hold b _ hb
      cases h with
      | slP _ _ _ c h1 h2 h3 h4 =>
        rw [Nat.zero_mul, Nat.add_zero]
        have := V.slF (m := m) b c (by omega) (by omega)
        rwa [p2, ← hn] at this
      | slP0 _ _ ad h1 =>
        exact .slF0 b ad (by omega)
    · exact h
  · exact h
theorem fixL_ok {m : Nat → Place} {Imm : Nat → Prop} {S : St} {w : World} (hR : Rel m Imm S.look w) : ∀ (l : List SV) {r : List SV} {vs : List Value}, fixH S l r → Vs m r vs → Vs m (fixL S l r) vs
  | [], r, vs, _, h => by unfold fixL; exact h
  | x :: l, [], vs, _, h => h
  | x :: l, y :: r, vs, hC, h => by
    unfold fixH at hC
    cases h with
    | cons _ v _ vs h h' => exact .cons _ _ _ _ (fix1_ok hR x hC.1 h) (fixL_ok hR l hC.2 h')
theorem fixL_length {S : St} : ∀ (l r : List SV), (fixL S l r).length = r.length
  | [], r => by unfold fixL; rfl
  | x :: l, [] => rfl
  | x :: l, y :: r => by simp [fixL, fixL_length l r]

/-- The blocks at the end, in the contract's numbers. -/
theorem end_refit {S : St} {H0 : VH} {hp : List (Nat × Option VB)} {u : List (Nat × Option VB)} {t : Ren} (hH : H0 = lookH hp) (hlow : ∀ b, UsedIn H0 b → b < 1024) (hhp : ∃ r, S.hp = r ++ hp) (hl : Low t)
    (hu : ∀ b vb, (b, some vb) ∈ u → S.look (tl t b) = some (vb.ren (tl t)) ∧ Bound t b) (hok : okEnd u t S hp.length = true) : Refit S.look H0 1024 u (tl t) := by
  unfold okEnd at hok
  rw [keysOf_eq, keysOf_eq, List.all_map] at hok
  simp only [Bool.and_eq_true] at hok
  obtain ⟨h1, h2, h3⟩ := hok
  have h1 := nodupN_ok h1
  have h2 : ∀ p ∈ t, 1024 ≤ p.2 ∨ p.2 ∈ u.map (·.1) := fun p hp => by have := (List.all_eq_true.1 h2) p hp; simpa [memN_iff] using this
  obtain ⟨r, hr⟩ := hhp
  have htake : S.hp.take (lenN S.hp - hp.length) = r := by
    rw [lenN_eq, hr, List.length_append, Nat.add_sub_cancel]
    exact List.take_left
  rw [htake] at h3
  have h3 : ∀ p ∈ r, 1024 ≤ p.1 ∨ p.1 ∈ u.map (·.1) := fun p hp => by have := (List.all_eq_true.1 h3) p hp; simpa [memN_iff, Function.comp] using this
  have keyed : ∀ {b}, lkN u b = none → b ∉ u.map (·.1) := fun {b} h hb => by
    obtain ⟨p, hp, e⟩ := List.mem_map.1 hb
    exact lkN_none.1 h p hp e
  refine ⟨hlow, fun b hb => hl.tl hb, fun b vb h => (hu b vb (lkN_some h)).1, fun b hb h _ => ?_, fun b b' vb vb' h h' e => imgs_inj h1 (lkN_some h) (lkN_some h') e, fun b vb b' h h' hlt _ e => ?_⟩
  · show lookH S.hp b = H0 b
    rw [hr, lookH_append, hH]
    unfold upd
    have : lkN r b = none := lkN_none.2 fun p hp e => by
      rcases h3 p hp with h4 | h4
      · omega
      · exact keyed h (e ▸ h4)
    rw [this]
  · rcases (hu b vb (lkN_some h)).2 with hb | ⟨c, hc⟩
    · rw [hl.tl hb] at e
      subst e
      rw [h] at h'; cases h'
    · have e1 : tl t b = c := by unfold tl; rw [hc]
      rw [e1] at e
      subst e
      rcases h2 _ (lkN_some hc) with h4 | h4
      · simp only at h4; omega
      · exact keyed h' h4

theorem unpack_V {m : Nat → Place} {s : SV} {ss : List SV} {vs : Array Value} (hl : (unpack ss s).length = ss.length) (h : Vs m (unpack ss s) vs.toList) (hlen : ss.length = vs.size) : V m s (packV vs) := by
  unfold unpack at h hl
  unfold packV
  split at h
  · rename_i x
    simp only [List.length_singleton] at hlen
    rw [dif_pos hlen.symm]
    cases vs with
    | mk l =>
    match l, hlen with
    | [v], _ => cases h with | cons _ _ _ _ h _ => exact h
  · rename_i hne
    have hns : ¬ vs.size = 1 := by
      intro e
      rw [e] at hlen
      match ss, hlen, hne with
      | [x], _, hne => exact hne x rfl
    rw [dif_neg hns]
    split at h
    · exact .tup _ _ h
    · rename_i hne2 _ hsp
      simp only [List.length_singleton] at hl
      match ss, hl, hne with
      | [x], _, hne => exact absurd rfl (hne x)
end Go.Proofs.Ythbmllekbbfobaa.Sx

/-! A function that does what is told of it keeps the contract that is lifted out of it. -/
namespace Go.Proofs.Ythbmllekbbfobaa.Sx
open Go
set_option linter.unusedVariables false
set_option linter.unusedSimpArgs false

variable {P : Program} {T : TT} {Γ : List (Nat × GC)}

theorem atN_ix : ∀ {l : List Nat} {b : Nat}, b ∈ l → atN l (ixN l b) = b ∧ ixN l b < l.length
  | a :: l, b, h => by
    simp only [ixN]
    rw [beqN]
    by_cases e : a = b
    · simp [e, atN]
    · rw [decide_eq_false e]
      simp only [cond_false, atN, List.length_cons]
      rcases List.mem_cons.1 h with h | h
      · exact absurd h.symm e
      · have := atN_ix h
        exact ⟨this.1, by omega⟩
theorem atN_mem : ∀ {l : List Nat} {i : Nat}, i < l.length → atN l i ∈ l
  | a :: l, 0, _ => by simp [atN]
  | a :: l, i + 1, h => by simp only [atN]; exact List.mem_cons_of_mem _ (atN_mem (by simpa using h))
theorem ix_atN : ∀ {l : List Nat} {i : Nat}, l.Nodup → i < l.length → ixN l (atN l i) = i
  | a :: l, 0, _, _ => by simp [atN, ixN]
  | a :: l, i + 1, hn, h => by
    rw [List.nodup_cons] at hn
    have hm := atN_mem (l := l) (i := i) (by simpa using h)
    simp only [atN, ixN]
    rw [beqN, decide_eq_false (by rintro rfl; exact hn.1 hm)]
    simp only [cond_false]
    rw [ix_atN hn.2 (by simpa using h)]

theorem blocksOf_lk {H : VH} {f : Nat → Nat} : ∀ {l : List Nat} {i j : Nat} {vb : VB}, lookH (somesV (blocksOf H f l i)) j = some vb → i ≤ j ∧ j < i + l.length ∧ ∃ v, H (atN l (j - i)) = some v ∧ vb = v.ren f
  | [], i, j, vb, h => by simp [blocksOf, somesV, lookH, lkN] at h
  | b :: l, i, j, vb, h => by
    simp only [blocksOf] at h
    have tail : lookH (somesV (blocksOf H f l (i + 1))) j = some vb → i ≤ j ∧ j < i + (b :: l).length ∧ ∃ v, H (atN (b :: l) (j - i)) = some v ∧ vb = v.ren f := by
      intro h
      obtain ⟨h1, h2, v, h3, h4⟩ := blocksOf_lk h
      refine ⟨by omega, by simp; omega, v, ?_, h4⟩
      rw [show j - i = (j - (i + 1)) + 1 by omega]
      exact h3
    split at h
    · rename_i v hv
      simp only [somesV, lookH, lkN] at h
      rw [beqN] at h
      by_cases e : i = j
      · subst e
        simp only [decide_true, cond_true, Option.some.injEq] at h
        exact ⟨Nat.le_refl _, by simp, v, by simpa [atN] using hv, h.symm⟩
      · rw [decide_eq_false e] at h
        exact tail h
    · exact tail h
theorem blocksOf_at {H : VH} {f : Nat → Nat} : ∀ {l : List Nat} {i j : Nat} {v : VB}, j < l.length → H (atN l j) = some v → lookH (somesV (blocksOf H f l i)) (i + j) = some (v.ren f)
  | b :: l, i, j, v, hj, h => by
    simp only [blocksOf]
    cases j with
    | zero =>
      simp only [atN] at h
      rw [h]
      simp [somesV, lookH, lkN]
    | succ j =>
      simp only [atN] at h
      have ih := blocksOf_at (f := f) (i := i + 1) (j := j) (by simpa using hj) h
      rw [show i + (j + 1) = i + 1 + j by omega]
      split
      · simp only [somesV, lookH, lkN]
        rw [beqN, decide_eq_false (by omega)]
        exact ih
      · exact ih
theorem somesV_length : ∀ l : List (Nat × VB), (somesV l).length = l.length
  | [] => rfl
  | (_, _) :: l => by simp [somesV, somesV_length l]

theorem renU_lk {g : Nat → Nat} : ∀ {u : List (Nat × Option VB)} {b : Nat}, (∃ j v, lkN u j = some v ∧ g j = b ∧ lkN (renU g u) b = some (v.map (VB.ren g))) ∨ (lkN (renU g u) b = none ∧ ∀ j v, lkN u j = some v → g j ≠ b)
  | [], b => .inr ⟨rfl, fun j v h => by cases h⟩
  | (j0, v0) :: u, b => by
    have e0 : lkN (renU g ((j0, v0) :: u)) b = if g j0 = b then some (v0.map (VB.ren g)) else lkN (renU g u) b := by
      cases v0 <;> (simp only [renU, lkN]; rw [beqN]; by_cases h : g j0 = b <;> simp [h])
    by_cases h : g j0 = b
    · exact .inl ⟨j0, v0, by simp [lkN], h, by rw [e0, if_pos h]⟩
    · rw [e0, if_neg h]
      rcases renU_lk (g := g) (u := u) (b := b) with ⟨j, v, h1, h2, h3⟩ | ⟨h1, h2⟩
      · refine .inl ⟨j, v, ?_, h2, h3⟩
        simp only [lkN]
        rw [beqN, decide_eq_false (by rintro rfl; exact h h2)]
        exact h1
      · refine .inr ⟨h1, fun j v hj => ?_⟩
        simp only [lkN] at hj
        rw [beqN] at hj
        by_cases e : j0 = j
        · subst e; exact h
        · rw [decide_eq_false e] at hj; exact h2 j v hj

theorem nilCs_keys : ∀ {ks : List (Option RK)} {cs l : List SV} {u : List (Nat × Option VB)} {n : Nat}, nilCs ks cs n = (l, u) → ∀ p ∈ u, p.1 ∈ idsL l
  | [], cs, l, u, n, h, p, hp => by
    simp only [nilCs, Prod.mk.injEq] at h
    obtain ⟨_, rfl⟩ := h
    simp at hp
  | k :: ks, [], l, u, n, h, p, hp => by
    have : nilCs (k :: ks) [] n = ([], []) := by cases k <;> rfl
    rw [this] at h
    simp only [Prod.mk.injEq] at h
    obtain ⟨_, rfl⟩ := h
    simp at hp
  | k :: ks, c :: cs, l, u, n, h, p, hp => by
    unfold nilCs at h
    split at h
    · rename_i e1 e2
      cases e1; cases e2
      cases h
      rcases List.mem_cons.1 hp with rfl | hp
      · simp [idsL, SV.ids]
      · simp only [idsL, List.mem_append]; exact .inr (nilCs_keys rfl p hp)
    · rename_i e1 e2
      cases e1; cases e2
      cases h
      simp only [idsL, List.mem_append]; exact .inr (nilCs_keys rfl p hp)
    · rename_i e1; cases e1
    · rename_i e1 _; cases e1

theorem renOk_ok {sig : List Nat} {key : Nat} {nu : List (Nat × Option VB)} {s : SV} {u : List (Nat × Option VB)} {c : SV → List (Nat × Option VB) → R} {s' : SV} {u' : List (Nat × Option VB)} (hc : ∀ s u, Holds (c s u) s' u' → s' = s ∧ u' = u) (h : Holds (renOk sig key nu s u c) s' u') :
    okNew sig s.ids = true ∧ okNew sig (idsU u) = true ∧ s' = s.ren (gN sig key) ∧ u' = renU (gN sig key) u ++ nu ∧ Holds (c s' u') s' u' := by
  unfold renOk at h
  cases e : (okNew sig s.ids && okNew sig (idsU u)) with
  | false => rw [e] at h; exact h.fail.elim
  | true =>
    rw [e] at h
    rw [Bool.and_eq_true] at e
    obtain ⟨h1, h2⟩ := hc _ _ h
    refine ⟨e.1, e.2, h1, h2, ?_⟩
    rw [h1, h2]
    rw [h1, h2] at h
    exact h
theorem renR_ok {sig : List Nat} {key : Nat} {nu : List (Nat × Option VB)} {s' : SV} {u' : List (Nat × Option VB)} : ∀ {r : R}, Holds (renR sig key nu r) s' u' → ∃ s u, Holds r s u ∧ okNew sig s.ids = true ∧ okNew sig (idsU u) = true ∧ s' = s.ren (gN sig key) ∧ u' = renU (gN sig key) u ++ nu
  | .ok s u, h => by
    obtain ⟨h1, h2, h3, h4, _⟩ := renOk_ok (c := .ok) (fun s u h => by obtain ⟨h1, h2⟩ := h.ok; exact ⟨h1.symm, h2.symm⟩) (show Holds (renOk sig key nu s u .ok) s' u' from h)
    exact ⟨s, u, .mk _ _, h1, h2, h3, h4⟩
  | .vc d s u, h => by
    obtain ⟨h1, h2, h3, h4, h5⟩ := renOk_ok (c := .vc d) (fun s u h => by obtain ⟨_, h1, h2⟩ := h.vc; exact ⟨h1.symm, h2.symm⟩) (show Holds (renOk sig key nu s u (.vc d)) s' u' from h)
    exact ⟨s, u, .mkVc _ _ _ h5.vc.1, h1, h2, h3, h4⟩
  | .br t a b, h => by
    rcases Holds.br (t := t) (a := renR sig key nu a) (b := renR sig key nu b) h with ⟨ht, h⟩ | ⟨ht, h⟩
    · obtain ⟨s, u, h1, h2⟩ := renR_ok h; exact ⟨s, u, .yes _ _ _ _ _ ht h1, h2⟩
    · obtain ⟨s, u, h1, h2⟩ := renR_ok h; exact ⟨s, u, .no _ _ _ _ _ ht h1, h2⟩
  | .fail w, h => (Holds.fail (why := w) h).elim

theorem number_lk : ∀ {l : List SV} {i d : Nat}, lkN (number i l) d = if i ≤ d then l[d - i]? else none
  | [], i, d => by simp [number, lkN]
  | s :: l, i, d => by
    simp only [number, lkN]
    rw [beqN]
    by_cases h : i = d
    · subst h; simp
    · simp only [h, decide_false, cond_false]
      rw [number_lk]
      by_cases h1 : i ≤ d
      · rw [if_pos (by omega), if_pos h1, show d - i = (d - (i + 1)) + 1 by omega]; simp
      · rw [if_neg (by omega), if_neg h1]

theorem somesV_lk : ∀ {l : List (Nat × VB)} {b : Nat}, lookH (somesV l) b = lkN l b
  | [], b => rfl
  | (c, v) :: l, b => by
    simp only [somesV, lookH, lkN]
    rw [beqN]
    by_cases e : c = b
    · simp [e]
    · rw [decide_eq_false e]; exact somesV_lk (l := l)
theorem fit_ok {m : Nat → Place} {Imm : Nat → Prop} {w : World} {hp : List (Nat × VB)} (hR : Rel m Imm (lookH (somesV hp)) w) : ∀ {l : List SV} {vs : List Value}, Vs m l vs → Fit hp l
  | [], vs, _ => trivial
  | x :: l, vs, h => by
    cases h with
    | cons _ v _ r hx hr =>
    refine ⟨?_, fit_ok hR hr⟩
    cases x with
    | slP b i n =>
      simp only [fitS]
      split
      · rename_i o k xs e
        rw [← somesV_lk] at e
        obtain ⟨_, p2, _⟩ := hR.hold b _ e
        cases hx with
        | slP _ _ _ c h1 h2 h3 _ => exact .inr (by omega)
        | slP0 _ _ a _ => exact .inl rfl
      · trivial
    | _ => trivial

theorem pf_ok (hT : TOk P T) (hΓ : GOks P Γ) (hm : P.follows .mixedOrders = true) {f : FuncId} {fn : Func} {c : Code} (hf : P.funcs[f]? = some fn) (hb : fn.body = some c) (hnm : (fn.name == "runtime.NumGoroutine") = false) (ks : List (Option RK)) (sp : Spec)
    (hd : (dsts c).all (fun d => Nat.blt d fn.ntmps) = true) (hn : Nat.ble ks.length fn.ntmps = true) (A : List SV → List (Nat × VB) → Anns)
    (hrun : ∀ args hp s u, Fit hp args → Holds (sp args hp) s u → fSt (start args hp) fun S => run T Γ (A args hp) c S (Ends T fn.results.toList (fitsEnd s u (lenN hp)))) : GOk P f (lift ks sp) := by
  refine ⟨⟨fn, hf, hnm, by rw [hb]; rfl⟩, ?_, fun cap H key ag y u h => by simp only [lift, mark] at h; cases h⟩
  intro args H key s u h m Imm w vals hR hc hids hv
  unfold lift at h
  split at h
  · exact h.fail.elim
  rw [fL_eq] at h
  obtain ⟨args1, nu, hnil⟩ : ∃ args1 nu, nilCs ks args (key + 50) = (args1, nu) := ⟨_, _, rfl⟩
  rw [hnil] at h
  simp only [fL_eq, fNs_eq] at h
  generalize collect (upd nu H) 400 (idsL args1) [] = sig at h
  cases hchk : (okSig (upd nu H) args1 key sig && (Nat.beq (lenN args) (lenN ks) && Nat.ble (lenN ks) 13)) with
  | false => rw [hchk] at h; exact h.fail.elim
  | true =>
  rw [hchk] at h
  simp only [cond_true] at h
  obtain ⟨s0, u0, hsp, hnew1, hnew2, rfl, rfl⟩ := renR_ok h
  clear h
  simp only [Bool.and_eq_true, beqN, decide_eq_true_eq, Nat.ble_eq, lenN_eq, okSig] at hchk
  obtain ⟨⟨hcl, hnd, hsl, hfar⟩, hlen, h13⟩ := hchk
  have hnd := nodupN_ok hnd
  have hcl : ∀ b ∈ idsL args1 ++ sig.flatMap (idsAt (upd nu H)), b ∈ sig := fun b hb => by have := (List.all_eq_true.1 hcl) b hb; rwa [memN_iff] at this
  have hfar : ∀ b ∈ sig, ¬ (key ≤ b ∧ b < key + 50) := fun b hb hk => by
    have := (List.all_eq_true.1 hfar) b hb
    rw [show Nat.ble key b = true by rw [Nat.ble_eq]; exact hk.1, show Nat.blt b (key + 50) = true by rw [Nat.blt_eq]; exact hk.2] at this
    cases this
  have clArgs : ∀ b ∈ idsL args1, b ∈ sig := fun b hb => hcl b (List.mem_append_left _ hb)
  have clCells : ∀ b cs, b ∈ sig → upd nu H b = some (.cells cs) → ∀ x ∈ idsL cs, x ∈ sig := fun b cs hb e x hx => hcl x (List.mem_append_right _ (List.mem_flatMap.2 ⟨b, hb, by simp only [idsAt]; rw [e]; exact hx⟩))
  have inK : ∀ i, i < args.length → inRange key (key + 50 + i) = true := fun i hi => by rw [inRange_iff]; unfold stride; omega
  -- the caller's blocks that are handed on, with rows for nil slices
  have hRh : Rel m Imm (hidden sig H) w := hR.hidden sig
  obtain ⟨m1, hv1, hs1, hm1, hnuk, _⟩ := nilCs_ok (key := key) hnil hRh hv (fun i hi => ⟨inK i hi, by
      rintro (hU | ⟨b', cs, hU, hx⟩)
      · exact hc _ (inK i hi) (.inl (by
          cases e : hidden sig H (key + 50 + i) with
          | none => exact absurd e hU
          | some vb => rw [(hidden_some e).2]; simp))
      · exact hc _ (inK i hi) (.inr ⟨b', cs, (hidden_some hU).2, hx⟩), fun hx => by
      have := hids _ hx; rw [inK i hi] at this; cases this⟩)
  have hnuS : ∀ p ∈ nu, p.1 ∈ sig := fun p hp => clArgs _ (nilCs_keys hnil p hp)
  generalize hHn : upd nu (hidden sig H) = Hn at hs1
  have hHn1 : ∀ b, b ∈ sig → Hn b = upd nu H b := fun b hb => by
    rw [← hHn]; exact upd_same fun _ => hidden_in H hb
  have hHn2 : ∀ b vb, Hn b = some vb → b ∈ sig := fun b vb e => by
    rw [← hHn] at e
    rcases upd_cases e with hp | ⟨_, e⟩
    · exact hnuS _ hp
    · exact (hidden_some e).1
  have hHn3 : ∀ b vb, Hn b = some vb → ∀ x ∈ vb.ids, x ∈ sig := fun b vb e x hx => by
    have hb := hHn2 b vb e
    cases vb with
    | row => simp [VB.ids] at hx
    | cells cs => exact clCells b cs hb (by rw [← hHn1 b hb, e]) x hx
  have hR1 := hs1.rel
  have hblk : blocksOf (upd nu H) (ixN sig) sig 0 = blocksOf Hn (ixN sig) sig 0 := by
    have : ∀ (l : List Nat) (i : Nat), (∀ b ∈ l, b ∈ sig) → blocksOf (upd nu H) (ixN sig) l i = blocksOf Hn (ixN sig) l i := by
      intro l
      induction l with
      | nil => intro i _; rfl
      | cons b l ih =>
        intro i hl
        simp only [blocksOf]
        rw [hHn1 b (hl b (by simp)), ih (i + 1) (fun b hb => hl b (by simp [hb]))]
    exact this sig 0 fun _ h => h
  rw [hblk] at hsp
  generalize hhp : blocksOf Hn (ixN sig) sig 0 = hp at hsp
  generalize ha : renL (ixN sig) args1 = a1 at hsp
  -- the function's own numbers
  have srcOf : ∀ i vb, lookH (somesV hp) i = some vb → i < sig.length ∧ ∃ v, Hn (atN sig i) = some v ∧ vb = v.ren (ixN sig) := by
    intro i vb e
    rw [← hhp] at e
    obtain ⟨_, h2, v, h3, h4⟩ := blocksOf_lk e
    exact ⟨by omega, v, by simpa using h3, h4⟩
  have m0ix : ∀ b, b ∈ sig → m1 (atN sig (ixN sig b)) = m1 b := fun b hb => by rw [(atN_ix hb).1]
  have hR0 : Rel (fun i => m1 (atN sig i)) Imm (lookH (somesV hp)) w := by
    refine ⟨?_, ?_, ?_, hR1.imm⟩
    · intro i vb e
      obtain ⟨h1, v, h2, rfl⟩ := srcOf i vb e
      exact (hR1.hold _ v h2).map fun b hb => m0ix b (hHn3 _ v h2 b hb)
    · intro i j vb vb' e e' o o' hne
      obtain ⟨h1, v, h2, rfl⟩ := srcOf i vb e
      obtain ⟨h1', v', h2', rfl⟩ := srcOf j vb' e'
      refine hR1.dist _ _ v v' h2 h2' (Own.ren.1 o) (Own.ren.1 o') fun e => hne ?_
      rw [← ix_atN hnd h1, ← ix_atN hnd h1', e]
    · intro i vb e o
      obtain ⟨h1, v, h2, rfl⟩ := srcOf i vb e
      exact hR1.apart _ v h2 (Own.ren.1 o)
  have low0 : ∀ b, UsedIn (lookH (somesV hp)) b → b < 1024 := by
    rintro b (hb | ⟨b', cs, hb, hx⟩)
    · cases e : lookH (somesV hp) b with
      | none => exact absurd e hb
      | some vb => obtain ⟨h1, _⟩ := srcOf b vb e; omega
    · obtain ⟨h1, v, h2, h3⟩ := srcOf b' _ hb
      have hx' : b ∈ (v.ren (ixN sig)).ids := by rw [← h3]; exact hx
      cases v with
      | row => simp [VB.ren, VB.ids] at hx'
      | cells l =>
        simp only [VB.ren, VB.ids] at hx'
        rw [renL_ids] at hx'
        obtain ⟨y, hy, rfl⟩ := List.mem_map.1 hx'
        have := (atN_ix (hHn3 _ _ h2 y hy)).2
        omega
  have hlow1 : ∀ b ∈ idsL a1, b < 1024 := by
    intro b hb
    rw [← ha, renL_ids] at hb
    obtain ⟨y, hy, rfl⟩ := List.mem_map.1 hb
    have := (atN_ix (clArgs y hy)).2
    omega
  have hv0 : Vs (fun i => m1 (atN sig i)) a1 vals.toList := by
    rw [← ha]
    exact Vs.map args1 hv1 fun b hb => m0ix b (clArgs b hb)
  have hvl : a1.length = vals.size := by have := hv0.length; simpa using this
  have hsz : vals.size ≤ fn.ntmps := by
    rw [Nat.ble_eq] at hn
    have h1 := hv.length
    simp at h1
    omega
  let E : Env := ⟨Zone (fun i => m1 (atN sig i)) (lookH (somesV hp)) w, Imm, w, fn.ntmps, 1024, fun i => m1 (atN sig i), w.heap.size, Nat.le_refl _⟩
  have hI : Inv E (start a1 hp) (fun i => m1 (atN sig i)) Imm { tmps := vals ++ Array.replicate (fn.ntmps - vals.size) undef, defers := [] } w := by
    have hget : ∀ d, (start a1 hp).get d = match a1[d]? with | some v => v | none => .undef := by
      intro d
      show getT (number 0 a1) d = _
      unfold getT
      rw [number_lk, if_pos (Nat.zero_le d), Nat.sub_zero]
      cases a1[d]? <;> rfl
    refine ⟨⟨⟨hR0, fun _ h => h, fun _ h => .inl h, fun b vb h o => .inr ⟨b, vb, h, o, rfl⟩, fun _ _ _ => rfl, Calm.refl w, fun r h => .inl h⟩, ?_, ?_, trivial, fun _ _ => rfl⟩, ?_, ?_, ?_⟩
    · intro d
      rw [hget]
      cases e : a1[d]? with
      | none => exact .undef _
      | some sv =>
        obtain ⟨x, h1, h2⟩ := hv0.get e
        have hlt : d < vals.size := by
          have := (List.getElem?_eq_some_iff.1 h1).1
          simpa using this
        have h3 : (vals ++ Array.replicate (fn.ntmps - vals.size) undef).getD d undef = x := by
          rw [Array.getD_eq_getD_getElem?, Array.getElem?_append_left hlt]
          rw [Array.getElem?_toList] at h1
          rw [h1]; rfl
        simp only
        rw [h3]
        exact h2
    · show (vals ++ Array.replicate (fn.ntmps - vals.size) undef).size = fn.ntmps
      rw [Array.size_append, Array.size_replicate]; omega
    · rintro b (hb | ⟨d, hb⟩)
      · exact low0 b hb
      · show b < 1024
        rw [hget] at hb
        cases e : a1[d]? with
        | none => rw [e] at hb; simp [SV.ids] at hb
        | some sv =>
          rw [e] at hb
          exact hlow1 b (idsL_iff.2 ⟨sv, List.mem_of_getElem? e, hb⟩)
    · exact Nat.le_refl _
    · intro d b h
      exact absurd h (by simp [St.know, start, knowT, lkN])
  have hrun' := hrun a1 hp s0 u0 (fit_ok hR0 hv0) hsp
  rw [fSt_eq] at hrun'
  refine (calls_run (E := E) hT hΓ hm hf hb rfl rfl hd hrun' hI).mono ?_
  rintro e w' ⟨S', m', Imm', a', ss0, vs, rfl, hends, hI', ⟨r, hr⟩, hvs0⟩
  unfold fitsEnd at hends
  obtain ⟨p0, hends, hp0⟩ := fixK_ok _ _ hends
  rw [fL_eq] at hends
  generalize hfx : fixL S' (unpack ss0 s0) ss0 = ss at hends
  obtain ⟨t1, r1, h1, _, hl1, he1, hb1⟩ := mtL_ok _ (t := []) (fun p hp => by simp at hp) hends
  obtain ⟨t, r2, ⟨h2, ⟨hr2⟩⟩, hx2, hl2, hu2⟩ := mtU_ok hl1 h1
  obtain ⟨hr1, hu2⟩ := hu2 hr2
  have hvs := fixL_ok hI'.live.since.rel (unpack ss0 s0) (hp0 (he1 hr1).1).2 hvs0
  rw [hfx] at hvs
  clear hvs0
  rw [lenN_eq, ← somesV_length] at h2
  have hvs0 : renL (tl t) (unpack ss s0) = ss := (he1 hr1).2 t hx2 hl2
  have hfit : Refit S'.look (lookH (somesV hp)) 1024 u0 (tl t) := end_refit rfl low0 ⟨r, hr⟩ hl2 (fun b vb hb => ⟨(hu2 b vb hb).1 t (.refl t) hl2, (hu2 b vb hb).2.1⟩) h2
  have hsince := hI'.live.since
  have hR2 := hfit.rel hsince.rel
  have hsame : ∀ i, i < 1024 → m' i = m1 (atN sig i) := hI'.live.same
  -- back in the caller's numbers
  let mC : Nat → Place := fun b => if key ≤ b ∧ b < key + 50 then m' (tl t (b - key + 2000)) else m1 b
  have mCout : ∀ b, ¬ (key ≤ b ∧ b < key + 50) → mC b = m1 b := fun b hb => by simp only [mC]; rw [if_neg hb]
  have mCg : ∀ j, (j < sig.length ∨ (2000 ≤ j ∧ j < 2050)) → mC (gN sig key j) = m' (tl t j) := by
    intro j hj
    unfold gN
    cases hlt : Nat.blt j (lenN sig) with
    | true =>
      rw [Nat.blt_eq, lenN_eq] at hlt
      simp only [cond_true]
      rw [mCout _ (hfar _ (atN_mem hlt)), hl2.tl (by omega), hsame j (by omega)]
    | false =>
      have : ¬ j < sig.length := by rw [← lenN_eq, ← Nat.blt_eq, hlt]; simp
      simp only [cond_false, mC]
      rw [if_pos (by omega), show key + (j - 2000) - key + 2000 = j by omega]
  have okn : ∀ {l : List Nat}, okNew sig l = true → ∀ j ∈ l, j < sig.length ∨ (2000 ≤ j ∧ j < 2050) := by
    intro l h j hj
    have := (List.all_eq_true.1 h) j hj
    simpa [lenN_eq, Nat.blt_eq, Nat.ble_eq] using this
  have hzone : ∀ r, Zone (fun i => m1 (atN sig i)) (lookH (somesV hp)) w r → Zone m1 Hn w r := by
    rintro r (hr | ⟨i, vb, e, o, rfl⟩)
    · exact .inl hr
    · obtain ⟨h1, v, h2, rfl⟩ := srcOf i vb e
      exact .inr ⟨atN sig i, v, h2, Own.ren.1 o, rfl⟩
  -- each block of the caller's is one of the function's
  have src : ∀ b vb, upd (renU (gN sig key) u0) Hn b = some vb → ∃ j vb0, upd u0 (lookH (somesV hp)) j = some vb0 ∧ gN sig key j = b ∧ mC b = m' (tl t j) ∧ (Own (mC b) vb → Own (m' (tl t j)) vb0) ∧ (Hold (fun b => m' (tl t b)) Imm' w' (m' (tl t j)) vb0 → Hold mC Imm' w' (mC b) vb) := by
    intro b vb h
    rcases renU_lk (g := gN sig key) (u := u0) (b := b) with ⟨j, v, q1, q2, q3⟩ | ⟨q1, q2⟩
    · unfold upd at h
      rw [q3] at h
      simp only at h
      cases v with
      | none => cases h
      | some vb0 =>
        obtain rfl := Option.some.inj h
        have hjU : j ∈ idsU u0 := idsU_key (p := (j, some vb0)) (lkN_some q1)
        have hmc := mCg j (okn hnew2 j hjU)
        rw [q2] at hmc
        refine ⟨j, vb0, by unfold upd; rw [q1], q2, hmc, fun o => by rw [hmc] at o; exact Own.ren.1 o, fun hh => ?_⟩
        rw [hmc]
        refine hh.map fun x hx => mCg x (okn hnew2 x ?_)
        cases vb0 with
        | row => simp [VB.ids] at hx
        | cells cs => exact idsU_cells (lkN_some q1) x hx
    · unfold upd at h
      rw [q1] at h
      simp only at h
      have hb := hHn2 b vb h
      obtain ⟨ix1, ix2⟩ := atN_ix hb
      have hun : lkN u0 (ixN sig b) = none := by
        cases e : lkN u0 (ixN sig b) with
        | none => rfl
        | some v =>
          refine absurd ?_ (q2 _ v e)
          unfold gN
          rw [show Nat.blt (ixN sig b) (lenN sig) = true by rw [Nat.blt_eq, lenN_eq]; exact ix2]
          exact ix1
      have hH0 : lookH (somesV hp) (ixN sig b) = some (vb.ren (ixN sig)) := by
        rw [← hhp]
        have := blocksOf_at (H := Hn) (f := ixN sig) (i := 0) ix2 (by rw [ix1]; exact h)
        simpa using this
      have hmc : mC b = m' (tl t (ixN sig b)) := by
        rw [mCout b (hfar b hb), hl2.tl (by omega), hsame _ (by omega), ix1]
      refine ⟨ixN sig b, vb.ren (ixN sig), by unfold upd; rw [hun]; exact hH0, ?_, hmc, fun o => by rw [hmc] at o; exact Own.ren.2 o, fun hh => ?_⟩
      · unfold gN
        rw [show Nat.blt (ixN sig b) (lenN sig) = true by rw [Nat.blt_eq, lenN_eq]; exact ix2]
        exact ix1
      · rw [hmc]
        refine hh.unmap fun x hx => ?_
        have hxs := hHn3 b vb h x hx
        obtain ⟨x1, x2⟩ := atN_ix hxs
        rw [mCout x (hfar x hxs), hl2.tl (by omega), hsame _ (by omega), x1]
  have hs2 : Step m1 Imm Hn w mC Imm' (upd (renU (gN sig key) u0) Hn) w' key := by
    refine ⟨⟨?_, ?_, ?_, hR2.imm⟩, ?_, hsince.mono, fun r hr => (hsince.zone r hr).imp id (hzone r), ?_, fun r q1 q2 => hsince.keep r q1 (fun hz => q2 (hzone r hz)), hsince.calm⟩
    · intro b vb h
      obtain ⟨j, vb0, q1, _, _, _, q5⟩ := src b vb h
      exact q5 (hR2.hold j vb0 q1)
    · intro b b' vb vb' h h' o o' hne
      obtain ⟨j, vb0, q1, q2, q3, q4, _⟩ := src b vb h
      obtain ⟨j', vb0', q1', q2', q3', q4', _⟩ := src b' vb' h'
      rw [q3, q3']
      exact hR2.dist j j' vb0 vb0' q1 q1' (q4 o) (q4' o') (by rintro rfl; exact hne (by rw [← q2, ← q2']))
    · intro b vb h o
      obtain ⟨j, vb0, q1, _, q3, q4, _⟩ := src b vb h
      rw [q3]
      exact hR2.apart j vb0 q1 (q4 o)
    · intro b hb
      refine mCout b fun hk => ?_
      rw [show inRange key b = true by rw [inRange_iff]; unfold stride; omega] at hb
      cases hb
    · intro b vb h o
      obtain ⟨j, vb0, q1, _, q3, q4, _⟩ := src b vb h
      rw [q3]
      exact hzone _ (hfit.own hsince.own q1 (q4 o))
  have hstep : Step m Imm H w mC Imm' (upd (renU (gN sig key) u0 ++ nu) H) w' key := by
    refine Step.frame (ids := sig) hR ?_ ?_ hc
    · rw [upd_append, hHn]
      exact hs1.trans hs2
    · intro p hp
      rcases List.mem_append.1 hp with hp | hp
      · have : ∃ j v, (j, v) ∈ u0 ∧ p.1 = gN sig key j := by
          have : ∀ (u : List (Nat × Option VB)), p ∈ renU (gN sig key) u → ∃ j v, (j, v) ∈ u ∧ p.1 = gN sig key j := by
            intro u
            induction u with
            | nil => intro h; simp [renU] at h
            | cons q l ih =>
              intro h
              obtain ⟨j, v⟩ := q
              cases v with
              | none =>
                rcases List.mem_cons.1 h with h | h
                · exact ⟨j, none, by simp, by rw [h]⟩
                · obtain ⟨j', v', h1, h2⟩ := ih h; exact ⟨j', v', by simp [h1], h2⟩
              | some v =>
                rcases List.mem_cons.1 h with h | h
                · exact ⟨j, some v, by simp, by rw [h]⟩
                · obtain ⟨j', v', h1, h2⟩ := ih h; exact ⟨j', v', by simp [h1], h2⟩
          exact this u0 hp
        obtain ⟨j, v, hj, e⟩ := this
        rw [e]
        unfold gN
        rcases okn hnew2 j (idsU_key (p := (j, v)) hj) with hlt | ⟨hge, hlt⟩
        · rw [show Nat.blt j (lenN sig) = true by rw [Nat.blt_eq, lenN_eq]; exact hlt]
          exact .inl (atN_mem hlt)
        · cases hb : Nat.blt j (lenN sig) with
          | true => rw [Nat.blt_eq, lenN_eq] at hb; exact .inl (atN_mem hb)
          | false =>
            right
            simp only [cond_false]
            rw [inRange_iff]
            unfold stride
            omega
      · exact .inl (hnuS p hp)
  refine ⟨mC, Imm', packV vs, rfl, ?_, hstep⟩
  have hvs' : Vs (fun b => m' (tl t b)) (unpack ss s0) vs.toList := by
    rw [← hvs0] at hvs
    exact Vs.unmap _ hvs fun _ _ => rfl
  have hlu : (unpack ss s0).length = ss.length := by rw [← renL_length (tl t) (unpack ss s0), hvs0]
  have hv0' := unpack_V hlu hvs' (by have := hvs.length; simpa using this)
  exact V.map s0 hv0' fun b hb => mCg b (okn hnew1 b hb)

/-! ### slices.Values -/
/-- What the function that slices.Values hands back yields: the row in its box. -/
def isK (k : RK) (H : VH) (x : SV) : Bool := match sliceOf H x with
  | some ⟨k', ys⟩ => (castK k k' ys).isSome
  | none => false
def itValues (k : RK) (ag : Bool) : GC := fun args H _ => match args with
  | [.fn (.yield _) [.elt _ (.negSucc _) _] [], .ptr b 0] => match H b with
    | some (.cells [.slF c]) => bif isK k H (.slF c) then .ok (.tup [.val (.bool ag), .slF c]) [(b, none), (c, none)] else .fail "an iterator over another kind"
    | some (.cells [.slP c i n]) => bif isK k H (.slP c i n) then .ok (.tup [.val (.bool ag), .slP c i n]) [(b, none), (c, none)] else .fail "an iterator over another kind"
    | _ => .fail "an iterator's box"
  | _ => .fail "an iterator"
def ValuesWalk (P : Program) (f : FuncId) (k : RK) (ag : Bool) : Prop := ∀ (l Bs b off cap : Nat) (ys : List (El k)) (J : Nat → World → Prop) (Jx : World → Prop), ys.length ≤ 4194304 →
  (∀ i W, J i W → W.cell? ⟨Bs, 0, none⟩ = some (.slice (some ⟨b, off, none⟩) ys.length cap) ∧ ∀ j q v, j < ys.length → (plainVs (enc k (ys.getD j (zK k))))[q]? = some v → W.cell? ⟨b, off + j * sz k + q, none⟩ = some v) →
  (∀ i W W', J i W → Turns (fun _ => False) W W' → J i W') →
  (∀ i W1, i < ys.length → J i W1 → YieldAt Fence.wide 0 P l #[eltV ag k (ys.getD i (zK k))] W1 fun e W' => (e = .returned (.bool true) ∧ J (i + 1) W') ∨ (e = .returned (.bool false) ∧ Jx W')) →
  ∀ W, J 0 W → CallsIn Fence.wide 0 P f #[.func (.yield l) #[] #[], .pointer (some ⟨Bs, 0, none⟩)] W fun e W' => (∃ v, e = .returned v) ∧ (J ys.length W' ∨ Jx W')
def ValuesNil (P : Program) (f : FuncId) : Prop := ∀ (l Bs c : Nat) (a : Option Addr) (J : World → Prop), (∀ W, J W → W.cell? ⟨Bs, 0, none⟩ = some (.slice a 0 c)) →
  ∀ W, J W → CallsIn Fence.wide 0 P f #[.func (.yield l) #[] #[], .pointer (some ⟨Bs, 0, none⟩)] W fun e W' => (∃ v, e = .returned v) ∧ J W'
theorem slice_blk {m : Nat → Place} {Imm : Nat → Prop} {H : VH} {w : World} (hR : Rel m Imm H w) {x : SV} {v : Value} {k : RK} {ys : List (El k)} {c : Nat} (hx : V m x v) (h : sliceOf H x = some ⟨k, ys⟩) (hc : x = .slF c ∨ ∃ i n, x = .slP c i n) :
    ∃ (a : Option Addr) (cp : Nat), v = .slice a ys.length cp ∧ (ys ≠ [] → ∃ own xs off, H c = some (.row own k xs) ∧ xs ≠ [] ∧ a = some ⟨(m c).blk, off, none⟩ ∧ Reads Imm w ⟨(m c).blk, off, sz k, cp, ys.length⟩ k ys) := by
  unfold sliceOf at h
  rcases hc with rfl | ⟨i, n, rfl⟩
  · simp only at h
    split at h
    · rename_i own k' xs hb
      obtain ⟨rfl, h⟩ := Sigma.mk.inj (Option.some.inj h)
      obtain rfl := eq_of_heq h
      obtain ⟨p1, p2, p3, p4, _⟩ := hR.hold c _ hb
      cases hx with
      | slF _ cp h1 h2 => exact ⟨_, cp, by rw [p2], fun hn => ⟨own, xs, _, hb, hn, rfl, p4⟩⟩
      | slF0 _ a h1 =>
        have : xs = [] := List.length_eq_zero_iff.1 (by omega)
        subst this
        exact ⟨a, 0, rfl, fun h => absurd rfl h⟩
    · cases h
  · simp only at h
    split at h
    · rename_i own k' xs hb
      obtain ⟨rfl, h⟩ := Sigma.mk.inj (Option.some.inj h)
      obtain rfl := eq_of_heq h
      obtain ⟨p1, p2, p3, p4, _⟩ := hR.hold c _ hb
      cases hx with
      | slP _ _ _ cp h1 h2 h3 _ =>
        have hl : ((xs.drop i).take n).length = n := by simp; omega
        refine ⟨_, cp, by rw [hl], fun hn => ⟨own, xs, _, hb, fun e => hn (by rw [e]; simp), rfl, ?_⟩⟩
        intro i' j e hi' he
        rw [hl] at hi'
        have get : ((xs.drop i).take n).getD i' (zK k') = xs.getD (i + i') (zK k') := by
          simp only [List.getD, List.getElem?_take, if_pos hi', List.getElem?_drop]
        rw [get] at he
        obtain ⟨v, h7, h8⟩ := p4 (i + i') j e (by omega) he
        refine ⟨v, ?_, h8⟩
        rw [← h7]
        show w.cell? ⟨(m c).blk, (m c).off + i * (m c).sz + (i' * sz k' + j), none⟩ = _
        rw [p1, Nat.add_mul]
        congr 2
        omega
      | slP0 _ _ a _ => exact ⟨a, 0, by simp, fun h => by simp at h⟩
    · cases h
theorem plainVs_get : ∀ {l : List CS} (hf : l.all (fun | .v _ => true | .s _ _ => false) = true) {q : Nat} {v : Value}, (plainVs l)[q]? = some v → l[q]? = some (.v v)
  | [], _, q, v, h => by simp [plainVs] at h
  | .v x :: l, hf, q, v, h => by
    cases q with
    | zero => simp [plainVs] at h; simp [h]
    | succ q => simp only [plainVs, List.getElem?_cons_succ] at h ⊢; exact plainVs_get (by simpa using hf) h
  | .s _ _ :: l, hf, q, v, h => by simp at hf

theorem itValues_ok {P : Program} {f : FuncId} {fn : Func} (hf : P.funcs[f]? = some fn) (hnm : (fn.name == "runtime.NumGoroutine") = false) (hb : fn.body.isNone = false) (ag : Bool) (k0 : RK) (hfl : ∀ x : El k0, (enc k0 x).all (fun | .v _ => true | .s _ _ => false) = true) (hW : ValuesWalk P f k0 ag) (hN : ValuesNil P f) : GOk P f (itValues k0 ag) := by
  refine ⟨⟨fn, hf, hnm, hb⟩, ?_, ?_⟩
  · intro args H key s u h m Imm w vals hR hc hids hv
    unfold itValues at h
    split at h
    · generalize vals.toList = vl at hv
      cases hv with
      | cons _ _ _ _ h1 _ =>
        cases h1 with
        | fn _ _ _ va _ h2 _ =>
          generalize va.toList = al at h2
          cases h2 with
          | cons _ _ _ _ h3 _ =>
            cases h3 with
            | elt _ _ _ h4 => exact absurd h4 (by simp)
    · exact h.fail.elim
  · intro cap H key ag' y u h k ys hsl hfk hmx
    unfold itValues mark at h
    split at h
    · rename_i b heq
      obtain ⟨_, hcap⟩ := List.cons.inj heq
      subst hcap
      have kind : isK k0 H y = true → k = k0 := fun hk => by
        unfold isK at hk
        rw [hsl] at hk
        simp only at hk
        cases e : castK k0 k ys with
        | none => rw [e] at hk; cases hk
        | some zs => exact (castK_some e).1
      have main : isK k0 H y = true → ∀ c, (y = .slF c ∨ ∃ i n, y = .slP c i n) → ag' = ag → u = [(b, none), (c, none)] → H b = some (.cells [y]) → (∀ p ∈ u, p.2 = none) ∧ ∀ (m : Nat → Place) (Imm : Nat → Prop) (w : World) (lb : Array Value), Rel m Imm H w → Vs m [.ptr b 0] lb.toList →
          ∃ Ks : Nat → Prop, (∀ r, Ks r → r < w.heap.size ∧ ¬ Zone m (upd u H) w r) ∧ SeqAt P f lb (ys.map (eltV ag' k)) Ks w := by
        rintro hk c hyc rfl rfl hbox
        obtain rfl := kind hk
        refine ⟨by simp, fun m Imm w lb hR hlb => ?_⟩
        obtain ⟨hoff, arr, t, harr, hvs⟩ := hR.hold b _ hbox
        have hlb' : lb = #[.pointer (some ⟨(m b).blk, 0, none⟩)] := by
          generalize hl : lb.toList = l at hlb
          cases hlb with
          | cons _ x _ r h1 h2 =>
            cases h1 with
            | ptr _ _ =>
              rw [h2.nil'] at hl
              rw [list1 hl, hoff]
        subst hlb'
        obtain ⟨vx, harr', hvx⟩ : ∃ vx, arr = #[vx] ∧ V m y vx := by
          generalize hl : arr.toList = l at hvs
          cases hvs with
          | cons _ x _ r h1 h2 =>
            rw [h2.nil'] at hl
            exact ⟨x, list1 hl, h1⟩
        subst harr'
        obtain ⟨a, cp, rfl, hrd⟩ := slice_blk hR hvx hsl hyc
        have hnb : upd [(b, none), (c, none)] H b = none := by simp [upd, lkN]
        have hnc : upd [(b, none), (c, none)] H c = none := by
          unfold upd
          by_cases e : b = c
          · subst e; simp [lkN]
          · simp [lkN, beqN, e]
        have hbz : (m b).blk < w.heap.size ∧ ¬ Zone m (upd [(b, none), (c, none)] H) w (m b).blk := by
          have hlt := (hR.hold b _ hbox).lt trivial
          refine ⟨hlt, ?_⟩
          rintro (hz | ⟨b', vb, e, o, h2⟩)
          · omega
          · have hne : b' ≠ b := fun e' => by rw [e', hnb] at e; cases e
            exact hR.dist b' b vb _ (drop_some (by simp) e) hbox o trivial hne h2
        have hcellB : ∀ W : World, W.heap[(m b).blk]? = w.heap[(m b).blk]? → W.cell? ⟨(m b).blk, 0, none⟩ = some (.slice a ys.length cp) := fun W hW => by
          rw [cell_of_block (w := w) hW, cell_row harr]; rfl
        by_cases hys : ys = []
        · subst hys
          refine ⟨fun r => r = (m b).blk, fun r hr => hr ▸ hbz, ?_⟩
          intro l J Jx W hJ hG hY h0
          refine (hN l (m b).blk cp a (J 0) (fun W hW => hcellB W (hJ 0 W hW _ rfl)) W h0).mono ?_
          rintro e W' ⟨he, hj⟩
          exact ⟨he, .inl hj⟩
        · obtain ⟨own, xs, off, hc, hxs, rfl, hreads⟩ := hrd hys
          have hcz : (m c).blk < w.heap.size ∧ ¬ Zone m (upd [(b, none), (c, none)] H) w (m c).blk := by
            obtain ⟨p1, p2, p3, p4, p5, p6⟩ := hR.hold c _ hc
            cases own with
            | false =>
              have hi := p6 rfl hxs
              refine ⟨hR.imm _ hi, ?_⟩
              rintro (hz | ⟨b', vb, e, o, h2⟩)
              · have := hR.imm _ hi; omega
              · exact hR.apart b' vb (drop_some (by simp) e) o (h2 ▸ hi)
            | true =>
              have ho : Own (m c) (.row true k xs) := by
                show 0 < (m c).cap
                cases xs with
                | nil => exact absurd rfl hxs
                | cons q l => simp at p3; omega
              refine ⟨(hR.hold c _ hc).lt ho, ?_⟩
              rintro (hz | ⟨b', vb, e, o, h2⟩)
              · have := (hR.hold c _ hc).lt ho; omega
              · have hne : b' ≠ c := fun e' => by rw [e', hnc] at e; cases e
                exact hR.dist b' c vb _ (drop_some (by simp) e) hc o ho hne h2
          refine ⟨fun r => r = (m b).blk ∨ r = (m c).blk, fun r hr => hr.elim (fun h => h ▸ hbz) (fun h => h ▸ hcz), ?_⟩
          intro l J Jx W hJ hG hY h0
          have := hW l (m b).blk (m c).blk off cp ys J Jx hmx (fun i W hW => ⟨hcellB W (hJ i W hW _ (.inl rfl)), fun j q v hj hq => ?_⟩) hG (fun i W1 hi hj => hY i _ W1 (by rw [List.getElem?_map, List.getElem?_eq_getElem hi, List.getD_eq_getElem?_getD, List.getElem?_eq_getElem hi]; rfl) hj) W h0
          · simpa using this
          · obtain ⟨v', h1, h2⟩ := hreads j q _ hj (plainVs_get (hfl _) hq)
            cases h2
            rw [cell_of_block (w := w) (hJ i W hW _ (.inr rfl)), Nat.add_assoc]
            exact h1
      split at h
      · rename_i c hbox
        cases hk : isK k0 H (.slF c) with
        | false => rw [hk] at h; cases h
        | true =>
        rw [hk] at h
        simp only [cond_true, R.ok.injEq, SV.tup.injEq, List.cons.injEq, SV.val.injEq, Value.bool.injEq, and_true] at h
        obtain ⟨⟨e1, rfl⟩, rfl⟩ := h
        exact main hk c (.inl rfl) e1.symm rfl hbox
      · rename_i c i n hbox
        cases hk : isK k0 H (.slP c i n) with
        | false => rw [hk] at h; cases h
        | true =>
        rw [hk] at h
        simp only [cond_true, R.ok.injEq, SV.tup.injEq, List.cons.injEq, SV.val.injEq, Value.bool.injEq, and_true] at h
        obtain ⟨⟨e1, rfl⟩, rfl⟩ := h
        exact main hk c (.inr ⟨i, n, rfl⟩) e1.symm rfl hbox
      · cases h
    · cases h
end Go.Proofs.Ythbmllekbbfobaa.Sx

