import Derived.Test.YtncdakkigkmfjaaSxZ
import Derived.LoopN
/-! Loops, and code. -/
namespace Go.Proofs.Ytncdakkigkmfjaa.Sx
open Go
set_option linter.unusedVariables false
set_option linter.unusedSimpArgs false

variable {P : Program} {T : TT} {Γ : List (Nat × GC)} {A : Anns} {E : Env}

theorem Ext.left (t t' : Ren) : Ext t (t ++ t') := by
  intro j c h
  rw [lkN_append, h]
theorem Ext.right {t t' : Ren} {n : Nat} (h : ∀ p ∈ t, p.1 < n) (h' : ∀ p ∈ t', n ≤ p.1) : Ext t' (t ++ t') := by
  intro j c e
  have : lkN t j = none := lkN_none.2 fun p hp e' => by
    have h1 := h p hp
    have h2 := h' _ (lkN_some e)
    simp only at h2; omega
  rw [lkN_append, this, e]

/-- What is told of a state, from number n on up to n'. -/
structure Tell (S : St) (n0 n n' : Nat) (X : List (Nat × SV)) (B : List (Nat × Option VB)) (olds : List Nat) (t : Ren) : Prop where
  keys : ∀ p ∈ t, n ≤ p.1 ∧ p.1 < n'
  slot : ∀ t', Ext t t' → (∀ b, b < n0 → tl t' b = b) → ∀ d sv, (d, sv) ∈ X → S.get d = sv.ren (tl t')
  blk : ∀ t', Ext t t' → (∀ b, b < n0 → tl t' b = b) → ∀ b vb, (b, vb) ∈ B → ∃ v, vb = some v ∧ S.look (tl t' b) = some (v.ren (tl t'))
  src : ∀ b vb, (b, vb) ∈ B → (∃ c, lkN t b = some c) ∨ b ∈ olds
  idT : ∀ d sv, (d, sv) ∈ X → ∀ b ∈ sv.ids, b < n0 ∨ ∃ c, lkN t b = some c
  idB : ∀ b v, (b, some v) ∈ B → ∀ x ∈ v.ids, x < n0 ∨ ∃ c, lkN t x = some c

theorem Tell.nil (S : St) (n0 n : Nat) : Tell S n0 n n [] [] [] [] :=
  ⟨fun p hp => by simp at hp, fun _ _ _ d sv h => by simp at h, fun _ _ _ b vb h => by simp at h, fun b vb h => by simp at h, fun d sv h => by simp at h, fun b v h => by simp at h⟩
theorem Tell.append {S : St} {n0 n n1 n2 : Nat} {X1 X2 : List (Nat × SV)} {B1 B2 : List (Nat × Option VB)} {o1 o2 : List Nat} {t1 t2 : Ren} (h1 : n ≤ n1) (h2 : n1 ≤ n2) (h : Tell S n0 n n1 X1 B1 o1 t1) (k : Tell S n0 n1 n2 X2 B2 o2 t2) :
    Tell S n0 n n2 (X1 ++ X2) (B1 ++ B2) (o1 ++ o2) (t1 ++ t2) := by
  have e1 : Ext t1 (t1 ++ t2) := .left _ _
  have e2 : Ext t2 (t1 ++ t2) := .right (n := n1) (fun p hp => (h.keys p hp).2) (fun p hp => (k.keys p hp).1)
  refine ⟨?_, ?_, ?_, ?_, ?_, ?_⟩
  · intro p hp
    rcases List.mem_append.1 hp with hp | hp
    · have := h.keys p hp; omega
    · have := k.keys p hp; omega
  · intro t' ht hl d sv hd
    rcases List.mem_append.1 hd with hd | hd
    · exact h.slot t' (e1.trans ht) hl d sv hd
    · exact k.slot t' (e2.trans ht) hl d sv hd
  · intro t' ht hl d sv hd
    rcases List.mem_append.1 hd with hd | hd
    · exact h.blk t' (e1.trans ht) hl d sv hd
    · exact k.blk t' (e2.trans ht) hl d sv hd
  · intro b vb hb
    rcases List.mem_append.1 hb with hb | hb
    · rcases h.src b vb hb with ⟨c, hc⟩ | hc
      · exact .inl ⟨c, e1 _ _ hc⟩
      · exact .inr (List.mem_append_left _ hc)
    · rcases k.src b vb hb with ⟨c, hc⟩ | hc
      · exact .inl ⟨c, e2 _ _ hc⟩
      · exact .inr (List.mem_append_right _ hc)
  · intro d sv hd b hb
    rcases List.mem_append.1 hd with hd | hd
    · exact (h.idT d sv hd b hb).imp id fun ⟨c, hc⟩ => ⟨c, e1 _ _ hc⟩
    · exact (k.idT d sv hd b hb).imp id fun ⟨c, hc⟩ => ⟨c, e2 _ _ hc⟩
  · intro d sv hd b hb
    rcases List.mem_append.1 hd with hd | hd
    · exact (h.idB d sv hd b hb).imp id fun ⟨c, hc⟩ => ⟨c, e1 _ _ hc⟩
    · exact (k.idB d sv hd b hb).imp id fun ⟨c, hc⟩ => ⟨c, e2 _ _ hc⟩

theorem rdRow_ok {S : St} {c : Nat} {own : Bool} {k : RK} {K : List (El k) → Prop} (h : rdRow S c own k K) : ∃ xs, K xs ∧ S.look c = some (.row own k xs) := by
  unfold rdRow at h
  split at h
  · rename_i own' k' xs' hc
    split at h
    · rename_i ys hk
      obtain ⟨rfl, e⟩ := castK_some hk
      obtain ⟨rfl, h⟩ := h
      simp only at e
      subst e
      exact ⟨_, h, hc⟩
    · exact h.elim
  · exact h.elim

/-- One part of a block. -/
structure Cell1 (S : St) (n0 n : Nat) (cs svs : List SV) (B : List (Nat × Option VB)) (t : Ren) : Prop where
  keys : ∀ p ∈ t, p.1 = n
  eq : ∀ t', Ext t t' → (∀ b, b < n0 → tl t' b = b) → cs = renL (tl t') svs
  blk : ∀ t', Ext t t' → ∀ b vb, (b, vb) ∈ B → ∃ o k xs, vb = some (.row o k xs) ∧ S.look (tl t' b) = some (.row o k xs)
  src : ∀ b vb, (b, vb) ∈ B → ∃ c, lkN t b = some c
  ids : ∀ b ∈ idsL svs, b < n0 ∨ ∃ c, lkN t b = some c
theorem Cell1.plain (S : St) (n0 n : Nat) {svs : List SV} (h : ∀ f, renL f svs = svs) (hi : idsL svs = []) : Cell1 S n0 n svs svs [] [] :=
  ⟨fun p hp => by simp at hp, fun _ _ _ => (h _).symm, fun _ _ b vb h => by simp at h, fun b vb h => by simp at h, fun b hb => by rw [hi] at hb; simp at hb⟩
theorem plain_one (x : Value) (f : Nat → Nat) : renL f [.val x] = [.val x] := rfl
theorem plainCells_ok : ∀ {n : Nat} {l : List SV} {K : List CS → List SV → Prop}, plainCells n l K → ∃ a r, K a r ∧ l = plainSV a ++ r ∧ (∀ f, renL f (plainSV a) = plainSV a) ∧ idsL (plainSV a) = [] ∧ ∀ e ∈ a, ∃ x, e = .v x
  | 0, l, K, h => ⟨[], l, h, rfl, fun _ => rfl, rfl, fun e he => by simp at he⟩
  | n + 1, [], K, h => h.elim
  | n + 1, x :: l, K, h => by
    cases x with
    | val v =>
      obtain ⟨a, r, h1, h2, h3, h4, h5⟩ := plainCells_ok (n := n) (l := l) h
      refine ⟨.v v :: a, r, h1, by simp [plainSV, h2], fun f => by simp [plainSV, renL, SV.ren, h3], by simp [plainSV, idsL, SV.ids, h4], fun e he => ?_⟩
      rcases List.mem_cons.1 he with rfl | he
      · exact ⟨v, rfl⟩
      · exact h5 e he
    | _ => exact h.elim
theorem dec_plain {k : RK} {a : List CS} {x : El k} (hf : flatK k = true) (ha : ∀ e ∈ a, ∃ v, e = CS.v v) (h : dec k a = some x) : enc k x = a := by
  unfold dec at h
  split at h
  all_goals first
    | (obtain rfl := Option.some.inj h; rfl)
    | (simp [flatK, enc, zK] at hf; done)
    | (cases h; done)
theorem rdSh1_ok {S : St} {n0 n : Nat} {sh : Sh} {cs : List SV} {K : Dsh sh → Ren → List SV → Prop} (hid : ∀ b ∈ shIds [sh], b < n0) (h : rdSh1 S n sh cs K) : ∃ x t r c, K x t r ∧ cs = c ++ r ∧ Cell1 S n0 n c (shT1 n sh x) (shB1 n sh x) t := by
  unfold rdSh1 at h
  split at h
  · split at h
    · rename_i e; subst e; exact ⟨_, _, _, [_], h, rfl, .plain _ _ _ (plain_one _) rfl⟩
    · exact h.elim
  · exact ⟨_, _, _, [_], h, rfl, .plain _ _ _ (plain_one _) rfl⟩
  · exact ⟨_, _, _, [_], h, rfl, .plain _ _ _ (plain_one _) rfl⟩
  · rename_i own k c l K
    obtain ⟨xs, h1, h2⟩ := rdRow_ok h
    have hc : lkN [(n, c)] n = some c := by simp [lkN]
    refine ⟨xs, _, _, [_], h1, rfl, fun p hp => by simp at hp; rw [hp], fun t' ht _ => ?_, fun t' ht b vb hb => ?_, fun b vb hb => ?_, fun b hb => ?_⟩
    · show _ = [SV.slF (tl t' n)]
      rw [ht.tl hc]
    · simp only [shB1, List.mem_singleton, Prod.mk.injEq] at hb
      obtain ⟨rfl, rfl⟩ := hb
      exact ⟨own, k, xs, rfl, by rw [ht.tl hc]; exact h2⟩
    · simp only [shB1, List.mem_singleton, Prod.mk.injEq] at hb
      obtain ⟨rfl, rfl⟩ := hb
      exact ⟨c, hc⟩
    · simp only [shT1, idsL, SV.ids, List.append_nil, List.mem_singleton] at hb
      subst hb
      exact .inr ⟨c, hc⟩
  · rename_i k K
    cases e : flatK k with
    | false => rw [e] at h; exact h.elim
    | true =>
      rw [e] at h
      obtain ⟨a, r, h1, h2, h3, h4, h5⟩ := plainCells_ok h
      split at h1
      · rename_i x hx
        refine ⟨x, _, r, plainSV a, h1, h2, ?_⟩
        show Cell1 S n0 n (plainSV a) (plainSV (enc k x)) [] []
        rw [dec_plain e h5 hx]
        exact .plain _ _ _ h3 h4
      · exact h1.elim
  · obtain ⟨rfl, h⟩ := h
    rename_i v l K
    have hid' : ∀ b ∈ v.ids, b < n0 := fun b hb => hid b (by simp [shIds, hb])
    exact ⟨(), _, _, [v], h, rfl, fun p hp => by simp at hp, fun t' _ hl => by simp only [shT1, renL]; rw [ren_id v fun b hb => hl b (hid' b hb)], fun _ _ b vb hb => by simp [shB1] at hb, fun b vb hb => by simp [shB1] at hb, fun b hb => .inl (hid' b (by simpa [shT1, idsL] using hb))⟩
  · exact h.elim

/-- The cells of a block. -/
structure CellsOk (S : St) (n0 n n' : Nat) (cs svs : List SV) (B : List (Nat × Option VB)) (t : Ren) : Prop where
  keys : ∀ p ∈ t, n ≤ p.1 ∧ p.1 < n'
  eq : ∀ t', Ext t t' → (∀ b, b < n0 → tl t' b = b) → cs = renL (tl t') svs
  blk : ∀ t', Ext t t' → ∀ b vb, (b, vb) ∈ B → ∃ o k xs, vb = some (.row o k xs) ∧ S.look (tl t' b) = some (.row o k xs)
  src : ∀ b vb, (b, vb) ∈ B → ∃ c, lkN t b = some c
  ids : ∀ b ∈ idsL svs, b < n0 ∨ ∃ c, lkN t b = some c
theorem renL_append (f : Nat → Nat) : ∀ l r : List SV, renL f (l ++ r) = renL f l ++ renL f r
  | [], r => rfl
  | x :: l, r => by simp [renL, renL_append f l r]
theorem rdSh_ok {S : St} {n0 : Nat} : ∀ {l : List Sh} {n : Nat} {cs : List SV} {K : Dshs l → Ren → Prop}, (∀ b ∈ shIds l, b < n0) → rdSh S l n cs K → ∃ x t, K x t ∧ CellsOk S n0 n (n + l.length) cs (shT l n x) (shB l n x) t
  | [], n, cs, K, _, h => by
    have h : rdNil cs K := h
    unfold rdNil at h
    split at h
    · exact ⟨(), [], h, fun p hp => by simp at hp, fun _ _ _ => rfl, fun _ _ b vb hb => by simp [shB] at hb, fun b vb hb => by simp [shB] at hb, fun b hb => by simp [shT, idsL] at hb⟩
    · exact h.elim
  | sh :: l, n, cs, K, hid, h => by
    have h : rdCons (rdSh1 S n sh) (rdSh S l (n + 1)) cs K := h
    have hid1 : ∀ b ∈ shIds [sh], b < n0 := fun b hb => hid b (by cases sh <;> simp_all [shIds])
    have hid2 : ∀ b ∈ shIds l, b < n0 := fun b hb => hid b (by cases sh <;> simp_all [shIds])
    unfold rdCons at h
    obtain ⟨x, t1, r, c, h1, rfl, k1⟩ := rdSh1_ok hid1 h
    obtain ⟨y, t2, h2, k2⟩ := rdSh_ok hid2 h1
    have e1 : Ext t1 (t1 ++ t2) := .left _ _
    have e2 : Ext t2 (t1 ++ t2) := .right (n := n + 1) (fun p hp => by rw [k1.keys p hp]; omega) (fun p hp => (k2.keys p hp).1)
    refine ⟨(x, y), t1 ++ t2, h2, ?_, ?_, ?_, ?_, ?_⟩
    · intro p hp
      simp only [List.length_cons]
      rcases List.mem_append.1 hp with hp | hp
      · rw [k1.keys p hp]; omega
      · have := k2.keys p hp; omega
    · intro t' ht hl
      simp only [shT]
      rw [renL_append, ← k1.eq t' (e1.trans ht) hl, ← k2.eq t' (e2.trans ht) hl]
    · intro t' ht b vb hb
      simp only [shB, List.mem_append] at hb
      rcases hb with hb | hb
      · exact k1.blk t' (e1.trans ht) b vb hb
      · exact k2.blk t' (e2.trans ht) b vb hb
    · intro b vb hb
      simp only [shB, List.mem_append] at hb
      rcases hb with hb | hb
      · obtain ⟨c, hc⟩ := k1.src b vb hb; exact ⟨c, e1 _ _ hc⟩
      · obtain ⟨c, hc⟩ := k2.src b vb hb; exact ⟨c, e2 _ _ hc⟩
    · intro b hb
      simp only [shT, idsL_append, List.mem_append] at hb
      rcases hb with hb | hb
      · exact (k1.ids b hb).imp id fun ⟨c, hc⟩ => ⟨c, e1 _ _ hc⟩
      · exact (k2.ids b hb).imp id fun ⟨c, hc⟩ => ⟨c, e2 _ _ hc⟩

theorem one_of {cs c r : List SV} {v : SV} {f : Nat → Nat} {sv : SV} (h : cs = c ++ r) (hcs : cs = [v]) (hc : c = renL f [sv]) : v = sv.ren f := by
  rw [hc] at h
  rw [hcs] at h
  simp only [renL, List.singleton_append, List.cons.injEq] at h
  exact h.1
theorem Cell1.tell {S : St} {n0 n d : Nat} {sv : SV} {B : List (Nat × Option VB)} {t : Ren} {c r : List SV} (hc : [S.get d] = c ++ r) (h : Cell1 S n0 n c [sv] B t) : Tell S n0 n (n + 32) [(d, sv)] B [] t := by
  refine ⟨fun p hp => by rw [h.keys p hp]; omega, fun t' ht hl d' sv' hd => ?_, fun t' ht hl b vb hb => ?_, fun b vb hb => .inl (h.src b vb hb), fun d' sv' hd => ?_, fun b v hb x hx => ?_⟩
  · simp only [List.mem_singleton, Prod.mk.injEq] at hd
    obtain ⟨rfl, rfl⟩ := hd
    exact one_of hc rfl (h.eq t' ht hl)
  · obtain ⟨o, k, xs, h1, h2⟩ := h.blk t' ht b vb hb
    exact ⟨_, h1, h2⟩
  · simp only [List.mem_singleton, Prod.mk.injEq] at hd
    obtain ⟨rfl, rfl⟩ := hd
    intro b hb
    exact h.ids b (by simpa [idsL] using hb)
  · obtain ⟨o, k, xs, h1, h2⟩ := h.blk t (.refl t) b _ hb
    obtain rfl := Option.some.inj h1
    simp [VB.ids] at hx
theorem rdCar_ok {S : St} {n0 n : Nat} {c : Car} {K : D c → Ren → Prop} (hn : n0 ≤ n) (hlen : carLen c < 31) (hid : ∀ b ∈ carIds c, b < n0) (h : rdCar S n c K) : ∃ x t, K x t ∧ Tell S n0 n (n + 32) (carT n c x) (carB n c x) (carOld c) t := by
  unfold rdCar at h
  split at h
  · obtain ⟨x, t, r, c, h1, hc, h2⟩ := rdSh1_ok (n0 := n0) (by simp [shIds]) h; exact ⟨x, t, h1, h2.tell hc⟩
  · obtain ⟨x, t, r, c, h1, hc, h2⟩ := rdSh1_ok (n0 := n0) (by simp [shIds]) h; exact ⟨x, t, h1, h2.tell hc⟩
  · obtain ⟨x, t, r, c, h1, hc, h2⟩ := rdSh1_ok (n0 := n0) (by simp [shIds]) h; exact ⟨x, t, h1, h2.tell hc⟩
  · obtain ⟨x, t, r, c, h1, hc, h2⟩ := rdSh1_ok (n0 := n0) (by simp [shIds]) h; exact ⟨x, t, h1, h2.tell hc⟩
  · rename_i d sh K
    split at h
    · rename_i c hd
      split at h
      · rename_i cs hc
        obtain ⟨x, t, h1, k1⟩ := rdSh_ok hid h
        have hcn : lkN ((n, c) :: t) n = some c := by simp [lkN]
        have e1 : Ext t ((n, c) :: t) := .cons (lkN_none.2 fun p hp e => by have := k1.keys p hp; omega)
        simp only [carLen, lenN_eq] at hlen
        refine ⟨x, _, h1, ?_, ?_, ?_, ?_, ?_, ?_⟩
        · intro p hp
          rcases List.mem_cons.1 hp with rfl | hp
          · simp
          · have := k1.keys p hp; omega
        · intro t' ht hl d' sv hd'
          simp only [carT, List.mem_singleton, Prod.mk.injEq] at hd'
          obtain ⟨rfl, rfl⟩ := hd'
          rw [hd]
          show _ = SV.ptr (tl t' n) 0
          rw [ht.tl hcn]
        · intro t' ht hl b vb hb
          rcases List.mem_cons.1 hb with hb | hb
          · cases hb
            refine ⟨_, rfl, ?_⟩
            rw [ht.tl hcn, hc, k1.eq t' (e1.trans ht) hl]
            rfl
          · obtain ⟨o, k, xs, g1, g2⟩ := k1.blk t' (e1.trans ht) b vb hb
            exact ⟨_, g1, g2⟩
        · intro b vb hb
          rcases List.mem_cons.1 hb with hb | hb
          · cases hb; exact .inl ⟨c, hcn⟩
          · obtain ⟨c', hc'⟩ := k1.src b vb hb; exact .inl ⟨c', e1 _ _ hc'⟩
        · intro d' sv hd' b hb
          simp only [carT, List.mem_singleton, Prod.mk.injEq] at hd'
          obtain ⟨rfl, rfl⟩ := hd'
          simp only [SV.ids, List.mem_singleton] at hb
          subst hb
          exact .inr ⟨c, hcn⟩
        · intro b v hb y hy
          rcases List.mem_cons.1 hb with hb | hb
          · cases hb
            exact (k1.ids y hy).imp id fun ⟨c', hc'⟩ => ⟨c', e1 _ _ hc'⟩
          · obtain ⟨o, k, xs, g1, g2⟩ := k1.blk t (.refl t) b _ hb
            obtain rfl := Option.some.inj g1
            simp [VB.ids] at hy
      · exact h.elim
    · exact h.elim
  · rename_i d k K
    split at h
    · rename_i c hd
      obtain ⟨xs, h1, h2⟩ := rdRow_ok h
      have hcn : lkN [(n, c)] n = some c := by simp [lkN]
      refine ⟨xs, _, h1, ?_, ?_, ?_, ?_, ?_, ?_⟩
      · intro p hp; simp at hp; subst hp; simp
      · intro t' ht hl d' sv hd'
        simp only [carT, List.mem_singleton, Prod.mk.injEq] at hd'
        obtain ⟨rfl, rfl⟩ := hd'
        rw [hd]
        show _ = SV.ptr (tl t' n) 0
        rw [ht.tl hcn]
      · intro t' ht hl b vb hb
        simp only [carB, List.mem_singleton, Prod.mk.injEq] at hb
        obtain ⟨rfl, rfl⟩ := hb
        exact ⟨_, rfl, by rw [ht.tl hcn]; exact h2⟩
      · intro b vb hb
        simp only [carB, List.mem_singleton, Prod.mk.injEq] at hb
        obtain ⟨rfl, rfl⟩ := hb
        exact .inl ⟨c, hcn⟩
      · intro d' sv hd' b hb
        simp only [carT, List.mem_singleton, Prod.mk.injEq] at hd'
        obtain ⟨rfl, rfl⟩ := hd'
        simp only [SV.ids, List.mem_singleton] at hb
        subst hb
        exact .inr ⟨c, hcn⟩
      · intro b v hb y hy
        simp only [carB, List.mem_singleton, Prod.mk.injEq, Option.some.injEq] at hb
        obtain ⟨rfl, rfl⟩ := hb
        simp [VB.ids] at hy
    · exact h.elim
  · rename_i b sh K
    split at h
    · rename_i cs hc
      have hb0 : b < n0 := hid b (by simp [carIds])
      obtain ⟨x, t, h1, k1⟩ := rdSh_ok (fun b hb => hid b (by simp [carIds, hb])) h
      simp only [carLen, lenN_eq] at hlen
      refine ⟨x, _, h1, ?_, ?_, ?_, ?_, ?_, ?_⟩
      · intro p hp
        have := k1.keys p hp; omega
      · intro t' ht hl d' sv hd'
        simp [carT] at hd'
      · intro t' ht hl b' vb hb
        rcases List.mem_cons.1 hb with hb | hb
        · cases hb
          refine ⟨_, rfl, ?_⟩
          rw [hl b hb0, hc, k1.eq t' ht hl]
          rfl
        · obtain ⟨o, k, xs, g1, g2⟩ := k1.blk t' ht b' vb hb
          exact ⟨_, g1, g2⟩
      · intro b' vb hb
        rcases List.mem_cons.1 hb with hb | hb
        · cases hb; exact .inr (by simp [carOld])
        · obtain ⟨c', hc'⟩ := k1.src b' vb hb; exact .inl ⟨c', hc'⟩
      · intro d' sv hd' b hb
        simp [carT] at hd'
      · intro b' v hb y hy
        rcases List.mem_cons.1 hb with hb | hb
        · cases hb
          exact k1.ids y hy
        · obtain ⟨o, k, xs, g1, g2⟩ := k1.blk t (.refl t) b' _ hb
          obtain rfl := Option.some.inj g1
          simp [VB.ids] at hy
    · exact h.elim
  · rename_i b own k K
    have hb0 : b < n0 := hid b (by simp [carIds])
    obtain ⟨xs, h1, h2⟩ := rdRow_ok h
    refine ⟨xs, _, h1, fun p hp => by simp at hp, fun _ _ _ d sv hd => by simp [carT] at hd, fun t' ht hl b' vb hb => ?_, fun b' vb hb => ?_, fun d sv hd => by simp [carT] at hd, fun b' v hb y hy => ?_⟩
    · simp only [carB, List.mem_singleton, Prod.mk.injEq] at hb
      obtain ⟨rfl, rfl⟩ := hb
      exact ⟨_, rfl, by rw [hl _ hb0]; exact h2⟩
    · simp only [carB, List.mem_singleton, Prod.mk.injEq] at hb
      obtain ⟨rfl, rfl⟩ := hb
      exact .inr (by simp [carOld])
    · simp only [carB, List.mem_singleton, Prod.mk.injEq, Option.some.injEq] at hb
      obtain ⟨rfl, rfl⟩ := hb
      simp [VB.ids] at hy
  · rename_i d v K
    obtain ⟨h1, h2⟩ := h
    refine ⟨(), _, h2, fun p hp => by simp at hp, fun t' ht hl d' sv hd => ?_, fun _ _ _ b vb hb => by simp [carB] at hb, fun b vb hb => by simp [carB] at hb, fun d' sv hd b hb => ?_, fun b' v hb y hy => by simp [carB] at hb⟩
    · simp only [carT, List.mem_singleton, Prod.mk.injEq] at hd
      obtain ⟨rfl, rfl⟩ := hd
      rw [h1, ren_id sv fun b hb => hl b (hid b hb)]
    · simp only [carT, List.mem_singleton, Prod.mk.injEq] at hd
      obtain ⟨rfl, rfl⟩ := hd
      exact .inl (hid b hb)
theorem rdCars_ok {S : St} {n0 : Nat} : ∀ {l : List Car} {n : Nat} {K : Ds l → Ren → Prop}, n0 ≤ n → (∀ c ∈ l, carLen c < 31) → (∀ b ∈ l.flatMap carIds, b < n0) → rdCars S l n K → ∃ x t, K x t ∧ Tell S n0 n (n + l.length * 32) (carsT l n x) (carsB l n x) (l.flatMap carOld) t
  | [], n, K, _, _, _, h => ⟨(), [], h, Tell.nil S n0 n⟩
  | c :: l, n, K, hn, hlen, hid, h => by
    have h : rdCar S n c fun x t => rdCars S l (n + 32) fun y t' => K (x, y) (t ++ t') := h
    obtain ⟨x, t1, h1, k1⟩ := rdCar_ok hn (hlen c (by simp)) (fun b hb => hid b (by simp [hb])) h
    obtain ⟨y, t2, h2, k2⟩ := rdCars_ok (n := n + 32) (Nat.le_trans hn (by omega)) (fun c hc => hlen c (by simp [hc])) (fun b hb => hid b (by simp only [List.flatMap_cons, List.mem_append]; exact .inr hb)) h1
    refine ⟨(x, y), _, h2, ?_⟩
    have := k1.append (by omega) (by omega) k2
    rw [show n + 32 + l.length * 32 = n + (c :: l).length * 32 by simp; omega] at this
    exact this

theorem some_of {S : St} {n0 n n' : Nat} {X : List (Nat × SV)} {B : List (Nat × Option VB)} {olds : List Nat} {t : Ren} (h : Tell S n0 n n' X B olds t) (hl : ∀ b, b < n0 → tl t b = b) {b : Nat} {v : Option VB} (hb : lkN B b = some v) : ∃ vb, v = some vb ∧ S.look (tl t b) = some (vb.ren (tl t)) ∧ ((∃ c, lkN t b = some c) ∨ b ∈ olds) ∧ ∀ x ∈ vb.ids, x < n0 ∨ ∃ c, lkN t x = some c := by
  obtain ⟨vb, h1, h2⟩ := h.blk t (.refl t) hl b v (lkN_some hb)
  subst h1
  exact ⟨vb, rfl, h2, h.src b _ (lkN_some hb), h.idB b vb (lkN_some hb)⟩

/-- The state, as a loop's head tells it. -/
theorem rehead {cs : List Car} {S S1 : St} {ds tk : List Nat} {x : Ds cs} {t : Ren} {m : Nat → Place} {Imm : Nat → Prop} {a : Act} {w : World} (hlow : ∀ b, Used S.get S.look b → b < S.next) (hlow0 : E.low ≤ S.next) (hI : Inv E S1 m Imm a w)
    (hcs : okCars cs ds S.next = true) (ht : okRen cs S.next tk t = true) (hT : Tell S1 S.next S.next (S.next + cs.length * 32) (carsT cs S.next x) (carsB cs S.next x) (cs.flatMap carOld) t)
    (hget : ∀ d, d ∉ ds → S1.get d = S.get d) (hlook : ∀ b, b < S.next → b ∉ cs.flatMap carOld → b ∉ tk → S1.look b = S.look b) : ∃ m', Inv E (head cs S ds tk x) m' Imm a w := by
  unfold okCars at hcs
  simp only [Bool.and_eq_true] at hcs
  obtain ⟨hs1, hs2, hs3, hs4, _, hs6⟩ := hcs
  have hs1 := nodupN_ok hs1
  have hs3 : ∀ b ∈ cs.flatMap carIds, b < S.next := fun b hb => by have := (List.all_eq_true.1 hs3) b hb; rwa [Nat.blt_eq] at this
  have hs4 := subN_ok hs4
  rw [Nat.blt_eq, lenN_eq] at hs6
  unfold okRen at ht
  simp only [Bool.and_eq_true, Bool.not_eq_true'] at ht
  obtain ⟨ht1, ht2, ht3⟩ := ht
  have ht1 := nodupN_ok ht1
  have ht2 := meets_no ht2
  have ht3 : ∀ p ∈ t, S.next ≤ p.2 ∨ p.2 ∈ tk := fun p hp => by have := (List.all_eq_true.1 ht3) p hp; simpa [memN_iff] using this
  have low : ∀ b, b < S.next → tl t b = b := fun b hb => by
    unfold tl
    have : lkN t b = none := lkN_none.2 fun p hp e => by have := (hT.keys p hp).1; omega
    rw [this]
  have olds : ∀ b ∈ cs.flatMap carOld, b < S.next := fun b hb => hs3 b (by
    obtain ⟨c, hc, hb⟩ := List.mem_flatMap.1 hb
    refine List.mem_flatMap.2 ⟨c, hc, ?_⟩
    cases c <;> simp_all [carOld, carIds])
  have hu : ∀ b, lkN (carsB cs S.next x ++ nones tk) b = match lkN (carsB cs S.next x) b with | some v => some v | none => lkN (nones tk) b := fun b => by
    rw [lkN_append]
    cases lkN (carsB cs S.next x) b <;> rfl
  have told : ∀ b vb, lkN (carsB cs S.next x ++ nones tk) b = some (some vb) → S1.look (tl t b) = some (vb.ren (tl t)) ∧ ((∃ c, lkN t b = some c) ∨ b ∈ cs.flatMap carOld) ∧ ∀ y ∈ vb.ids, y < S.next ∨ ∃ c, lkN t y = some c := by
    intro b vb h
    rw [hu] at h
    cases e : lkN (carsB cs S.next x) b with
    | some v =>
      rw [e] at h
      obtain ⟨vb', h1, h2, h3, h4⟩ := some_of hT low e
      simp only [Option.some.injEq] at h
      rw [h] at h1
      cases h1
      exact ⟨h2, h3, h4⟩
    | none =>
      rw [e] at h
      rcases nones_lk (l := tk) (b := b) with ⟨_, h1⟩ | ⟨_, h1⟩ <;> (rw [h1] at h; cases h)
  have untold : ∀ b, lkN (carsB cs S.next x ++ nones tk) b = none → b ∉ tk := by
    intro b h hb
    rw [hu] at h
    split at h
    · cases h
    · rcases nones_lk (l := tk) (b := b) with ⟨_, h1⟩ | ⟨h1, _⟩
      · rw [h1] at h; cases h
      · exact h1 hb
  have olds_told : ∀ b ∈ cs.flatMap carOld, (lkN (carsB cs S.next x ++ nones tk) b) ≠ none := by
    intro b hb h
    rw [hu] at h
    split at h
    · cases h
    · rename_i e
      -- an older block that is carried is told
      have : ∀ (l : List Car) (n : Nat) (y : Ds l), b ∈ l.flatMap carOld → lkN (carsB l n y) b ≠ none := by
        intro l
        induction l with
        | nil => intro n y hb; simp at hb
        | cons c l ih =>
          rintro n ⟨y, y'⟩ hb
          simp only [carsB]
          rw [lkN_append]
          cases e : lkN (carB n c y) b with
          | some v => simp
          | none =>
            simp only [List.flatMap_cons, List.mem_append] at hb
            rcases hb with hb | hb
            · cases c with
              | blk b' sh =>
                simp only [carOld, List.mem_singleton] at hb
                subst hb
                simp [carB, lkN] at e
              | row b' o k =>
                simp only [carOld, List.mem_singleton] at hb
                subst hb
                simp [carB, lkN] at e
              | _ => simp [carOld] at hb
            · exact ih _ _ hb
      exact this cs _ x hb e
  have hR : Refit S1.look S.look S.next (carsB cs S.next x ++ nones tk) (tl t) := by
    refine ⟨fun b hb => hlow b (.inl hb), low, fun b vb h => (told b vb h).1, fun b hb h1 h2 => hlook b hb (fun h => olds_told b h h1) (untold b h1), ?_, ?_⟩
    · intro b b' vb vb' h h' e
      obtain ⟨_, h1, _⟩ := told b vb h
      obtain ⟨_, h1', _⟩ := told b' vb' h'
      rcases h1 with ⟨c, h1⟩ | h1 <;> rcases h1' with ⟨c', h1'⟩ | h1'
      · have e1 : tl t b = c := by unfold tl; rw [h1]
        have e2 : tl t b' = c' := by unfold tl; rw [h1']
        rw [e1, e2] at e
        subst e
        exact lkN_inj ht1 h1 h1'
      · have e1 : tl t b = c := by unfold tl; rw [h1]
        rw [e1, low b' (olds b' h1')] at e
        subst e
        exact absurd h1' (ht2 _ (lkN_snd h1))
      · have e2 : tl t b' = c' := by unfold tl; rw [h1']
        rw [e2, low b (olds b h1)] at e
        subst e
        exact absurd h1 (ht2 _ (lkN_snd h1'))
      · rw [low b (olds b h1), low b' (olds b' h1')] at e
        exact e
    · intro b vb b' h h' hlt hne e
      obtain ⟨_, h1, _⟩ := told b vb h
      rcases h1 with ⟨c, h1⟩ | h1
      · have e1 : tl t b = c := by unfold tl; rw [h1]
        rw [e1] at e
        subst e
        rcases ht3 _ (lkN_some h1) with h2 | h2
        · simp only at h2; omega
        · exact untold _ h' h2
      · rw [low b (olds b h1)] at e
        subst e
        rw [h] at h'; cases h'
  have hlk : (head cs S ds tk x).look = upd (carsB cs S.next x ++ nones tk) S.look := by
    show lookH (carsB cs S.next x ++ (nones tk ++ S.hp)) = _
    rw [← List.append_assoc, lookH_append]; rfl
  -- the slots
  have hgt : ∀ d, ((∃ sv, (head cs S ds tk x).get d = sv ∧ (d, sv) ∈ carsT cs S.next x) ∨ (d ∈ ds ∧ (head cs S ds tk x).get d = .undef)) ∨ (d ∉ ds ∧ (head cs S ds tk x).get d = S.get d) := by
    intro d
    have hg : (head cs S ds tk x).get d = match lkN (carsT cs S.next x ++ (undefs ds ++ S.tp)) d with | some v => v | none => .undef := rfl
    rw [lkN_append, lkN_append] at hg
    cases e : lkN (carsT cs S.next x) d with
    | some sv => rw [e] at hg; exact .inl (.inl ⟨sv, hg, lkN_some e⟩)
    | none =>
      rw [e] at hg
      rcases undefs_lk (l := ds) (d := d) with ⟨h1, h2⟩ | ⟨h1, h2⟩
      · rw [h2] at hg; exact .inl (.inr ⟨h1, hg⟩)
      · rw [h2] at hg; exact .inr ⟨h1, hg⟩
  refine ⟨fun b => m (tl t b), ⟨⟨by rw [hlk]; exact hR.since hI.live.since, ?_, hI.live.size, hI.live.defers, ?_⟩, ?_, Nat.le_trans hlow0 (Nat.le_add_right _ _), ?_⟩⟩
  · intro d
    have hs := hI.live.slots d
    rcases hgt d with (⟨sv, h1, h2⟩ | ⟨_, h1⟩) | ⟨h1, h2⟩
    · rw [h1]
      rw [hT.slot t (.refl t) low d sv h2] at hs
      exact V.unmap sv hs fun _ _ => rfl
    · rw [h1]; exact .undef _
    · rw [h2]
      rw [hget d h1] at hs
      exact hs.moved fun b hb => by rw [low b (hlow b (.inr ⟨d, hb⟩))]
  · intro b hb
    show m (tl t b) = E.m0 b
    rw [low b (Nat.lt_of_lt_of_le hb hlow0)]
    exact hI.live.same b hb
  · have key : ∀ b c, lkN t b = some c → b < S.next + 1024 := fun b c h => by
      have := (hT.keys _ (lkN_some h)).2
      simp only at this
      omega
    rintro b (hb | ⟨d, hb⟩)
    · show b < S.next + 1024
      rw [hlk] at hb
      have src : ∀ b vb, upd (carsB cs S.next x ++ nones tk) S.look b = some vb → b < S.next + 1024 ∧ ∀ y ∈ vb.ids, y < S.next + 1024 := by
        intro b vb h
        unfold upd at h
        cases e : lkN (carsB cs S.next x ++ nones tk) b with
        | some v =>
          rw [e] at h
          simp only at h
          subst h
          obtain ⟨_, h2, h3⟩ := told b vb e
          refine ⟨?_, fun y hy => ?_⟩
          · rcases h2 with ⟨c, h2⟩ | h2
            · exact key b c h2
            · have := olds b h2; omega
          · rcases h3 y hy with h3 | ⟨c, h3⟩
            · omega
            · exact key y c h3
        | none =>
          rw [e] at h
          simp only at h
          refine ⟨by have := hlow b (.inl (.inl (by rw [h]; simp))); omega, fun y hy => ?_⟩
          cases vb with
          | row => simp [VB.ids] at hy
          | cells l => have := hlow y (.inl (.inr ⟨b, l, h, hy⟩)); omega
      rcases hb with hb | ⟨b', l, hb, hx⟩
      · cases e : upd (carsB cs S.next x ++ nones tk) S.look b with
        | none => exact absurd e hb
        | some vb => exact (src b vb e).1
      · exact (src b' _ hb).2 b hx
    · show b < S.next + 1024
      rcases hgt d with (⟨sv, h1, h2⟩ | ⟨_, h1⟩) | ⟨h1, h2⟩
      · rw [h1] at hb
        rcases hT.idT d sv h2 b hb with h | ⟨c, h⟩
        · omega
        · exact key b c h
      · rw [h1] at hb; simp [SV.ids] at hb
      · rw [h2] at hb; have := hlow b (.inr ⟨d, hb⟩); omega
  · intro d b h
    exact absurd h (by simp [St.know, head, headN, knowT, lkN])
end Go.Proofs.Ytncdakkigkmfjaa.Sx
