import Derived.Test.YthbmllekbbfobaaProg
import Derived.Test.YthbmllekbbfobaaSxU
import Derived.IntWalk
import Derived.Test.YthbmllekbbfobaaI6
/-! ipe, Parse, pure -/
namespace Go.Proofs.Ythbmllekbbfobaa.Sx
open Go
set_option linter.unusedVariables false
set_option linter.unusedSimpArgs false
set_option maxRecDepth 100000

/-! What is read of a form. -/
theorem getD_cons_append2 (x y : Int) (l : List Int) : (x :: y :: l).getD 0 0 = x ∧ (x :: y :: l).getD 1 0 = y := ⟨rfl, rfl⟩
theorem getGo_elem {d : Nat} {rec : List Int → List Elem × Int} {t last : Int} {c r : List Int} (hd : d ≠ 0) (ht : last < t) (h128 : t < 128) :
    getGo d rec (t :: (c.length : Int) :: (c ++ r)).length (t :: (c.length : Int) :: (c ++ r)) last = consE (.mk t c []) (getGo d rec r.length r t) := by
  have e1 : ((c.length : Int)).toNat = c.length := Int.toNat_natCast _
  have hno : ¬ ((t :: (c.length : Int) :: (c ++ r)).length < 2 ∨ ((t :: (c.length : Int) :: (c ++ r)).length : Int) - 2 < (c.length : Int)) := by
    simp only [List.length_cons, List.length_append]
    omega
  rw [getGo_step (by simp), if_neg hd]
  generalize hL : (t :: (c.length : Int) :: (c ++ r)).length = L at *
  simp only [List.getD_cons_zero, List.getD_cons_succ, e1, List.drop_succ_cons, List.drop_zero, show 2 + c.length = c.length + 2 by omega, List.take_left, List.drop_left]
  rw [if_neg (show ¬ t ≤ last by omega), if_neg hno, if_pos h128]
theorem getGo_inn {d : Nat} {rec : List Int → List Elem × Int} (hd : d ≠ 0) : ∀ (i last : Int) (ns : List Int), last ≤ i → i + ns.length ≤ 127 → getGo d rec (innL i ns).length (innL i ns) last = (esG i ns, 0)
  | i, last, [], _, _ => rfl
  | i, last, n :: ns, h, h' => by
    simp only [List.length_cons] at h'
    rw [innL, entL, esG]
    split
    · rw [List.nil_append]; exact getGo_inn hd (i + 1) last ns (by omega) (by omega)
    · rw [List.cons_append, List.cons_append, getGo_elem hd (by omega) (by omega), getGo_inn hd (i + 1) (i + 1) ns (Int.le_refl _) (by omega)]
      rfl
theorem getP_form {p : Product} (h : rightP p = true) : getP 4 (formB p) = ([.mk 224 [] (esG 0 (numsP p))], 0) := by
  have hl := inn_len h
  have e1 : ((((innL 0 (numsP p)).length : Nat) : Int)).toNat = (innL 0 (numsP p)).length := Int.toNat_natCast _
  have hin : getP 3 (innL 0 (numsP p)) = (esG 0 (numsP p), 0) := getGo_inn (by decide) 0 0 (numsP p) (Int.le_refl _) (by simp [numsP])
  have hno : ¬ ((224 :: ((innL 0 (numsP p)).length : Int) :: innL 0 (numsP p)).length < 2 ∨ ((224 :: ((innL 0 (numsP p)).length : Int) :: innL 0 (numsP p)).length : Int) - 2 < ((innL 0 (numsP p)).length : Int)) := by
    simp only [List.length_cons]
    omega
  rw [getP, formB, getGo_step (by simp), if_neg (by decide)]
  generalize hL : (224 :: ((innL 0 (numsP p)).length : Int) :: innL 0 (numsP p)).length = L at *
  simp only [List.getD_cons_zero, List.getD_cons_succ, e1, List.drop_succ_cons, List.drop_zero, show 2 + (innL 0 (numsP p)).length = (innL 0 (numsP p)).length + 2 by omega, List.take_length, List.drop_length]
  rw [if_neg (show ¬ (224 : Int) ≤ 0 by decide), if_neg hno, if_neg (show ¬ (224 : Int) < 128 by decide), hin, if_pos rfl]
  rfl
theorem esG_at : ∀ (i : Int) (ns : List Int), ∀ x ∈ esG i ns, ∃ k : Nat, k < ns.length ∧ x.tag = i + k + 1 ∧ ns.getD k 0 ≠ 0 ∧ x.bytes = numB (ns.getD k 0)
  | i, [], x, h => by cases h
  | i, n :: ns, x, h => by
    rw [esG] at h
    have next : x ∈ esG (i + 1) ns → ∃ k : Nat, k < (n :: ns).length ∧ x.tag = i + k + 1 ∧ (n :: ns).getD k 0 ≠ 0 ∧ x.bytes = numB ((n :: ns).getD k 0) := by
      intro h
      obtain ⟨k, h1, h2, h3, h4⟩ := esG_at (i + 1) ns x h
      exact ⟨k + 1, by simp only [List.length_cons]; omega, by omega, h3, h4⟩
    split at h
    · exact next h
    · rename_i hn
      rcases List.mem_cons.1 h with rfl | h
      · exact ⟨0, by simp, show i + 1 = i + ((0 : Nat) : Int) + 1 by omega, hn, rfl⟩
      · exact next h
def goodX (x : Elem) : Prop := x.tag ≤ 14 ∧ intE x.bytes = 0 ∧ intV x.bytes ≠ 0 ∧ (x.tag = 9 → intV x.bytes = 1) ∧ (x.tag = 14 → intV x.bytes = 1)
theorem b2i_01 (b : Bool) (h : b2i b ≠ 0) : b2i b = 1 := by cases b <;> simp_all [b2i]
theorem esG_good {p : Product} (h : rightP p = true) : ∀ x ∈ esG 0 (numsP p), goodX x := by
  intro x hx
  obtain ⟨k, h1, h2, h3, h4⟩ := esG_at 0 _ x hx
  have hm : (numsP p).getD k 0 ∈ numsP p := mem_getD h1
  have ho := right_okL h _ hm
  obtain ⟨e1, e2⟩ := numB_E ho.1 ho.2
  have h14 : (numsP p).length = 14 := rfl
  refine ⟨by omega, by rw [h4]; exact e1, by rw [h4, e2]; exact h3, fun ht => ?_, fun ht => ?_⟩
  · obtain rfl : k = 8 := by omega
    rw [h4, e2]
    exact b2i_01 _ h3
  · obtain rfl : k = 13 := by omega
    rw [h4, e2]
    exact b2i_01 _ h3
theorem set_at_len {l r : List Int} {n : Nat} {x y : Int} (h : n = l.length) : (l ++ y :: r).set n x = l ++ x :: r := by
  subst h; rw [List.set_append_right _ _ (Nat.le_refl _), Nat.sub_self]; rfl
theorem asg_form : ∀ (i : Nat) (ns pre : List Int), pre.length = i → i + ns.length ≤ 14 → okL ns → asg (esG i ns) (pre ++ List.replicate ns.length 0) = pre ++ ns
  | i, [], pre, _, _, _ => rfl
  | i, n :: ns, pre, hp, h, ho => by
    simp only [List.length_cons] at h
    have hn := ho n List.mem_cons_self
    have ih := fun x => asg_form (i + 1) ns (pre ++ [x]) (by simp [hp]) (by omega) (fun m hm => ho m (List.mem_cons_of_mem _ hm))
    rw [Int.natCast_add, Int.natCast_one] at ih
    rw [esG]
    split
    · rename_i h0
      have ih := ih 0
      rw [List.append_assoc, List.append_assoc] at ih
      rw [List.length_cons, List.replicate_succ]
      exact h0 ▸ ih
    · have ih := ih n
      rw [List.append_assoc, List.append_assoc] at ih
      have e : ((i : Int) + 1 - 1).toNat = i := by omega
      have hstep : asg1 (pre ++ List.replicate (n :: ns).length 0) (.mk ((i : Int) + 1) (numB n) []) = pre ++ ([n] ++ List.replicate ns.length 0) := by
        rw [asg1, if_pos (show (i : Int) + 1 ≤ 14 by omega)]
        show (pre ++ List.replicate (n :: ns).length 0).set ((i : Int) + 1 - 1).toNat (intV (numB n)) = _
        rw [e, (numB_E hn.1 hn.2).2, List.length_cons, List.replicate_succ, set_at_len hp.symm]
        rfl
      show asg (esG (↑i + 1) ns) (asg1 (pre ++ List.replicate (n :: ns).length 0) (.mk ((i : Int) + 1) (numB n) [])) = _
      rw [hstep]
      exact ih
theorem prodN_nums (p : Product) : prodN (numsP p) = p := by
  obtain ⟨a, b, c, d, e, f, g, h, i, j, k, l, m, n⟩ := p
  simp only [numsP, prodN, List.getD_cons_zero, List.getD_cons_succ]
  congr 1
  · cases i <;> rfl
  · cases n <;> rfl
theorem cand_form {p : Product} (h : rightP p = true) : candP (formB p) = p := by
  rw [candP, getP_form h]
  have := asg_form 0 (numsP p) [] rfl (by simp [numsP]) (right_okL h)
  show prodN (asg (esG 0 (numsP p)) zN) = p
  have e : asg (esG 0 (numsP p)) zN = numsP p := this
  rw [e, prodN_nums]
theorem par_form {p : Product} (h : rightP p = true) : parE (formB p) = 0 ∧ parP (formB p) = p := by
  have hc := cand_form h
  obtain ⟨e1, e2⟩ := par_ok (b := formB p) (by rw [getP_form h]) (by rw [hc]; exact h) (by rw [hc])
  exact ⟨e1, by rw [e2, hc]⟩
/-- Elements that are read well are those of the numbers. -/
theorem esG_skip (r : List Int) : ∀ (k : Nat) (i : Int), esG i (List.replicate k 0 ++ r) = esG (i + k) r
  | 0, i => by simp
  | k + 1, i => by
    rw [List.replicate_succ, List.cons_append, esG, if_pos rfl, esG_skip r k (i + 1)]
    congr 1; omega
theorem getD_zeros : ∀ (n k : Nat), (List.replicate n (0 : Int)).getD k 0 = 0
  | 0, k => rfl
  | n + 1, 0 => rfl
  | n + 1, k + 1 => getD_zeros n k
theorem getD_zeros_app (r : List Int) : ∀ (n k : Nat), (List.replicate n (0 : Int) ++ r).getD k 0 = if k < n then 0 else r.getD (k - n) 0
  | 0, k => by simp
  | n + 1, 0 => by simp [List.replicate_succ]
  | n + 1, k + 1 => by
    have := getD_zeros_app r n k
    rw [List.replicate_succ, List.cons_append, List.getD_cons_succ, this]
    by_cases h : k < n
    · rw [if_pos h, if_pos (by omega)]
    · rw [if_neg h, if_neg (by omega), Nat.add_sub_add_right]
theorem back_es : ∀ (es : List Elem) (l : Nat) (pre : List Int), l ≤ 14 → pre.length = l → okTags l es → (∀ x ∈ es, goodX x ∧ isB x.bytes ∧ (x.tag < 128 → x.elems = [])) →
    ∃ ns : List Int, ns.length = 14 - l ∧ asg es (pre ++ List.replicate (14 - l) 0) = pre ++ ns ∧ esG l ns = es ∧
      ∀ k : Nat, ns.getD k 0 = 0 ∨ ∃ x ∈ es, x.tag = l + k + 1 ∧ ns.getD k 0 = intV x.bytes
  | [], l, pre, _, _, _, _ => ⟨List.replicate (14 - l) 0, by simp, rfl, by have := esG_skip [] (14 - l) l; rw [List.append_nil] at this; rw [this]; rfl, fun k => .inl (getD_zeros _ k)⟩
  | x :: es, l, pre, hl, hp, ho, hx => by
    obtain ⟨h1, h2, h3⟩ := ho
    obtain ⟨⟨g1, g2, g3, g4, g5⟩, hb, he⟩ := hx x List.mem_cons_self
    obtain ⟨t, ht⟩ : ∃ t : Nat, x.tag = ((t + 1 : Nat) : Int) := ⟨(x.tag - 1).toNat, by omega⟩
    rw [ht] at h3
    obtain ⟨ns, e1, e2, e3, e5⟩ := back_es es (t + 1) (pre ++ (List.replicate (t - l) 0 ++ [intV x.bytes])) (by omega) (by simp [hp]; omega) h3 (fun y hy => hx y (List.mem_cons_of_mem _ hy))
    refine ⟨List.replicate (t - l) 0 ++ intV x.bytes :: ns, by simp [e1]; omega, ?_, ?_, ?_⟩
    · have hz : (x.tag - 1).toNat = t := by omega
      have hs : asg1 (pre ++ List.replicate (14 - l) 0) x = pre ++ (List.replicate (t - l) 0 ++ [intV x.bytes]) ++ List.replicate (14 - (t + 1)) 0 := by
        rw [asg1, if_pos g1, hz, show 14 - l = (t - l) + ((14 - (t + 1)) + 1) by omega, ← List.replicate_append_replicate, List.replicate_succ, ← List.append_assoc, set_at_len (by simp [hp]; omega)]
        simp
      show asg es (asg1 (pre ++ List.replicate (14 - l) 0) x) = _
      rw [hs, e2]
      simp
    · rw [esG_skip, esG, if_neg g3, intV_back hb g2]
      have e4 : ((l : Int) + ((t - l : Nat) : Int)) + 1 = x.tag := by omega
      rw [e4, ht, e3, ← ht]
      congr 1
      obtain ⟨a, b, c⟩ := x
      have : c = [] := he (show a < 128 from by have : a ≤ 14 := g1; omega)
      rw [this]
    · intro k
      rw [getD_zeros_app]
      by_cases hk : k < t - l
      · rw [if_pos hk]; exact .inl rfl
      · rw [if_neg hk]
        cases hd : k - (t - l) with
        | zero => exact .inr ⟨x, List.mem_cons_self, by omega, rfl⟩
        | succ m =>
          rw [List.getD_cons_succ]
          rcases e5 m with h | ⟨y, h1, h2, h3⟩
          · exact .inl h
          · exact .inr ⟨y, List.mem_cons_of_mem _ h1, by omega, h3⟩
theorem lay_inn : ∀ (i : Int) (ns : List Int), i + ns.length ≤ 127 → layE (layP 2) (esG i ns) = innL i ns
  | i, [], _ => rfl
  | i, n :: ns, h => by
    simp only [List.length_cons] at h
    rw [esG, innL, entL]
    split
    · exact lay_inn (i + 1) ns (by omega)
    · have hb : layB (layP 2) (.mk (i + 1) (numB n) []) = numB n := if_pos (show i + 1 < 128 by omega)
      rw [layE, hb, lay_inn (i + 1) ns (by omega)]
      rfl
theorem nums_prodN {ns : List Int} (h : ns.length = 14) (h8 : ns.getD 8 0 = 0 ∨ ns.getD 8 0 = 1) (h13 : ns.getD 13 0 = 0 ∨ ns.getD 13 0 = 1) : numsP (prodN ns) = ns := by
  match ns, h with
  | [a, b, c, d, e, f, g, h, i, j, k, l, m, n], _ =>
    simp only [List.getD_cons_zero, List.getD_cons_succ] at h8 h13
    simp only [numsP, prodN, List.getD_cons_zero, List.getD_cons_succ]
    rcases h8 with rfl | rfl <;> rcases h13 with rfl | rfl <;> rfl
theorem form_back {b : List Int} {bs : List Int} {es : List Elem} (hB : isB b) (hG : getP 4 b = ([.mk 224 bs es], 0)) (hg : ∀ x ∈ es, goodX x) : formB (candP b) = b := by
  have hW := getP_w 4 b hB
  rw [hG] at hW
  have hx := hW.2 _ List.mem_cons_self
  have hes : wE 3 es := hx.2.2.1
  obtain ⟨ns, e1, e2, e3, e4⟩ := back_es es 0 [] (by omega) rfl hes.1 (fun x hm => ⟨hg x hm, (hes.2 x hm).1, (hes.2 x hm).2.2.2.1⟩)
  rw [List.nil_append, List.nil_append] at e2
  have e3 : esG 0 ns = es := e3
  have h8 : ns.getD 8 0 = 0 ∨ ns.getD 8 0 = 1 := (e4 8).imp id fun ⟨x, h1, h2, h3⟩ => by rw [h3]; exact (hg x h1).2.2.2.1 (by omega)
  have h13 : ns.getD 13 0 = 0 ∨ ns.getD 13 0 = 1 := (e4 13).imp id fun ⟨x, h1, h2, h3⟩ => by rw [h3]; exact (hg x h1).2.2.2.2 (by omega)
  have hns := nums_prodN e1 h8 h13
  have hc : candP b = prodN ns := by
    rw [candP, hG]
    show prodN (asg es zN) = _
    have : asg es zN = ns := e2
    rw [this]
  have hl := getP_lay 4 b hB (by rw [hG])
  rw [hG] at hl
  rw [hc, formB, hns, ← hl]
  show _ = layE (layP 3) [.mk 224 bs es]
  have hb : layB (layP 3) (.mk 224 bs es) = innL 0 ns := by
    rw [layB, if_neg (show ¬ (224 : Int) < 128 by decide)]
    show layE (layP 2) es = _
    rw [← e3]
    exact lay_inn 0 ns (by omega)
  rw [layE, hb, layE, List.append_nil]
theorem ref_bad {b : List Int} (h0 : (getP 4 b).2 = 0) (hbad : ¬ ∃ bs es, (getP 4 b).1 = [.mk 224 bs es] ∧ (∀ x ∈ es, goodX x) ∧ rightP (candP b) = true) : parE b = 12 ∧ parP b = zP := by
  refine par_bad h0 ?_
  rintro ⟨h1, h2⟩
  refine hbad ⟨[], esG 0 (numsP (candP b)), ?_, esG_good h1, h1⟩
  have := getP_form h1
  rw [h2] at this
  rw [this]
theorem ref_ok {b bs : List Int} {es : List Elem} (hB : isB b) (h0 : (getP 4 b).2 = 0) (h1 : (getP 4 b).1 = [.mk 224 bs es]) (h2 : ∀ x ∈ es, goodX x) (h3 : rightP (candP b) = true) : parE b = 0 ∧ parP b = candP b :=
  par_ok h0 h3 (form_back hB (Prod.ext h1 h0) h2)
def IRr (p : Product) (i : Int) : Prop := ∃ j : Nat, j ≤ 14 ∧ i = j ∧ okUp (numsP p) j = true
def IRI (b : List Int) (i n : Int) : Prop := ∃ j : Nat, j ≤ b.length ∧ i = j ∧ n = num (b.take j)
def lastT : List Elem → Int
  | [] => 0
  | [x] => x.tag
  | _ :: l => lastT l
def IRG4 (d : Nat) (b0 : List Int) (ci : Int) (es : List Elem) : Prop := ∃ (i : Nat) (e : List Elem), ci = i ∧ e = es ∧ i ≤ b0.length ∧ e.length ≤ i ∧ 0 ≤ lastT e ∧ getP d b0 = preE e (getGo d (recP d) (b0.drop i).length (b0.drop i) (lastT e))
def IRP (es : List Elem) (i : Int) (ns : List Int) : Prop := ∃ j : Nat, j ≤ es.length ∧ i = j ∧ asg (es.take j) zN = ns ∧ ns.length = 14 ∧ ∀ x ∈ es.take j, goodX x
theorem lo_eq : ∀ k : Nat, k < 14 → loP.getD k 0 = if k < 5 then 1 else 0 := by decide
theorem okN_iff {ns : List Int} {k : Nat} (hk : k < 14) : okN ns k = true ↔ (if k < 5 then 1 else 0) ≤ ns.getD k 0 ∧ ns.getD k 0 ≤ ([4, 4, 65535, 65535, 255, 2147483648, 65535, 255, 1, 255, 65535, 65535, 65535, 1] : List Int).getD k 0 := by
  rw [okN, Bool.and_eq_true, decide_eq_true_eq, decide_eq_true_eq, lo_eq k hk]; rfl
theorem bad_right {p : Product} {k : Nat} (hk : k < 14) (h : ¬ okN (numsP p) k = true) : false = rightP p := by
  cases hr : rightP p with
  | false => rfl
  | true => exact absurd (okUp_le _ hk hr) h
theorem num_take7 {b : List Int} {j : Nat} (hB : isB b) (hj : j ≤ 6) : num (b.take j) < 36028797018963968 := by
  refine Int.lt_of_lt_of_le (num_lt (hB.take j)).2 ?_
  rw [List.length_take]
  have hc : min j b.length = 0 ∨ min j b.length = 1 ∨ min j b.length = 2 ∨ min j b.length = 3 ∨ min j b.length = 4 ∨ min j b.length = 5 ∨ min j b.length = 6 := by omega
  rcases hc with e | e | e | e | e | e | e <;> rw [e] <;> decide
theorem lastT_snoc (x : Elem) : ∀ l : List Elem, lastT (l ++ [x]) = x.tag
  | [] => rfl
  | [y] => rfl
  | y :: z :: l => lastT_snoc x (z :: l)
theorem lastT_getD (z : Elem) : ∀ l : List Elem, 0 < l.length → (l.getD (l.length - 1) z).tag = lastT l
  | [x], _ => rfl
  | x :: y :: l, _ => lastT_getD z (y :: l) (by simp)
theorem lastT_nil {l : List Elem} (h : (l.length : Int) ≤ 0) : lastT l = 0 := by
  obtain rfl : l = [] := List.eq_nil_of_length_eq_zero (by omega)
  rfl
theorem part2 {b c : List Int} {p m j n : Nat} (h : (b.drop p).take m = c) (hn : j + n ≤ m) : (b.drop (p + j)).take n = (c.drop j).take n := by
  rw [← h, List.drop_take, List.drop_drop, List.take_take, Nat.min_eq_left (by omega)]
theorem getD_drop (b : List Int) (i j : Nat) : (b.drop i).getD j 0 = b.getD (i + j) 0 := by
  rw [List.getD_eq_getElem?_getD, List.getElem?_drop, List.getD_eq_getElem?_getD]
theorem refGet_step {d : Nat} {rec : List Int → List Elem × Int} {bb : List Int} {i : Nat} {last : Int} (hi : i < bb.length) : getGo d rec (bb.drop i).length (bb.drop i) last =
    (if d = 0 then ([], 15) else if bb.getD i 0 ≤ last then ([], 12) else if (bb.length : Int) ≤ i + 1 ∨ (bb.length : Int) < i + 2 + bb.getD (i + 1) 0 then ([], 10) else
    if bb.getD i 0 < 128 then consE ⟨bb.getD i 0, (bb.drop (i + 2)).take (bb.getD (i + 1) 0).toNat, []⟩ (getGo d rec (bb.drop (i + 2 + (bb.getD (i + 1) 0).toNat)).length (bb.drop (i + 2 + (bb.getD (i + 1) 0).toNat)) (bb.getD i 0))
    else if (rec ((bb.drop (i + 2)).take (bb.getD (i + 1) 0).toNat)).2 = 0 then consE ⟨bb.getD i 0, [], (rec ((bb.drop (i + 2)).take (bb.getD (i + 1) 0).toNat)).1⟩ (getGo d rec (bb.drop (i + 2 + (bb.getD (i + 1) 0).toNat)).length (bb.drop (i + 2 + (bb.getD (i + 1) 0).toNat)) (bb.getD i 0))
    else ([], (rec ((bb.drop (i + 2)).take (bb.getD (i + 1) 0).toNat)).2)) := by
  rw [getGo_step (by rw [List.length_drop]; omega)]
  simp only [getD_drop, List.drop_drop, Nat.add_zero, ← Nat.add_assoc]
  have e : ((bb.drop i).length < 2 ∨ ((bb.drop i).length : Int) - 2 < bb.getD (i + 1) 0) = ((bb.length : Int) ≤ i + 1 ∨ (bb.length : Int) < i + 2 + bb.getD (i + 1) 0) := by
    rw [List.length_drop]
    apply propext
    constructor <;> rintro (h | h) <;> omega
  simp only [e]
theorem one_of_len {l : List Elem} (h : (l.length : Int) = 1) : ∃ x, l = [x] := by
  match l, h with
  | [x], _ => exact ⟨x, rfl⟩
  | [], h => simp at h
  | x :: y :: l, h => simp only [List.length_cons] at h; omega
theorem not_good {x : Elem} {b : List Int} (h : (getP 4 b).1 = [x]) {j : Nat} {z : Elem} (hj : j < x.elems.length) (hb : ¬ goodX (x.elems.getD j z)) (h0 : (getP 4 b).2 = 0) : parE b = 12 ∧ parP b = zP := by
  refine ref_bad h0 ?_
  rintro ⟨bs, es, h1, h2, _⟩
  rw [h] at h1
  obtain rfl : x = .mk 224 bs es := (List.cons.inj h1).1
  exact hb (h2 _ (mem_getD hj))
theorem elem_eta {x : Elem} {t : Int} (h : x.tag = t) : x = .mk t x.bytes x.elems := by
  obtain ⟨a, c, d⟩ := x
  rw [show a = t from h]


end Go.Proofs.Ythbmllekbbfobaa.Sx
