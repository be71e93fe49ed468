import Derived.Test.YthbmllekbbfobaaProg
import Derived.Test.YthbmllekbbfobaaSxU
import Derived.IntWalk
import Derived.Test.YthbmllekbbfobaaI4
/-! ipe, Form -/
namespace Go.Proofs.Ythbmllekbbfobaa.Sx
open Go
set_option linter.unusedVariables false
set_option linter.unusedSimpArgs false
set_option maxRecDepth 100000

/-- Rising tags above l, none greater than 255. -/
def okTags : Int → List Elem → Prop
  | _, [] => True
  | l, x :: r => l < x.tag ∧ x.tag ≤ 255 ∧ okTags x.tag r
def wX (w : List Elem → Prop) (x : Elem) : Prop := isB x.bytes ∧ x.bytes.length ≤ 255 ∧ w x.elems ∧ (x.tag < 128 → x.elems = []) ∧ (128 ≤ x.tag → x.bytes = [])
def wE : Nat → List Elem → Prop
  | 0, es => es = []
  | d + 1, es => okTags 0 es ∧ ∀ x ∈ es, wX (wE d) x
theorem wE_nil : ∀ d, wE d []
  | 0 => rfl
  | d + 1 => ⟨trivial, fun _ h => by cases h⟩
theorem okTags_len : ∀ {l : Int} {es : List Elem}, okTags l es → (es.length : Int) ≤ 255 - l ∨ es = []
  | l, [], h => .inr rfl
  | l, x :: r, h => by
    obtain ⟨h1, h2, h3⟩ := h
    refine .inl ?_
    rcases okTags_len h3 with h | h
    · simp only [List.length_cons]; omega
    · subst h; simp only [List.length_cons, List.length_nil]; omega
theorem okTags_len' {es : List Elem} (h : okTags 0 es) : es.length ≤ 255 := by
  rcases okTags_len h with h | h
  · omega
  · subst h; simp
theorem wE_hE : ∀ {d : Nat} {es : List Elem}, wE d es → hE d es
  | 0, es, h => h
  | d + 1, es, h => fun x hx => wE_hE (h.2 x hx).2.2.1
theorem wE_lE : ∀ {d : Nat} {es : List Elem}, wE d es → lE d es
  | 0, es, h => by rw [show es = [] from h]; exact Nat.zero_le _
  | d + 1, es, h => ⟨by have := okTags_len' h.1; omega, fun x hx => ⟨by have := (h.2 x hx).2.1; omega, wE_lE (h.2 x hx).2.2.1⟩⟩
theorem isB_nil : isB [] := fun _ h => by cases h
theorem consE_w {l : Int} {w : List Elem → Prop} {x : Elem} {r : List Elem × Int} (h1 : l < x.tag) (h2 : x.tag ≤ 255) (hw : wX w x) (hr : okTags x.tag r.1) (hr' : ∀ y ∈ r.1, wX w y) : okTags l (consE x r).1 ∧ ∀ y ∈ (consE x r).1, wX w y := by
  unfold consE
  split
  · exact ⟨⟨h1, h2, hr⟩, fun y hy => (List.mem_cons.1 hy).elim (fun e => e ▸ hw) (hr' y)⟩
  · exact ⟨trivial, fun _ h => by cases h⟩
theorem getGo_w {d : Nat} {rec : List Int → List Elem × Int} {w : List Elem → Prop} (hn : w []) (hrec : ∀ c, isB c → c.length ≤ 255 → w (rec c).1) :
    ∀ (f : Nat) (b : List Int) (last : Int), isB b → okTags last (getGo d rec f b last).1 ∧ ∀ x ∈ (getGo d rec f b last).1, wX w x
  | 0, b, last, hb => ⟨trivial, fun _ h => by cases h⟩
  | f + 1, b, last, hb => by
    have t0 := hb.getD 0
    have t1 := hb.getD 1
    have ih := getGo_w (d := d) hn hrec f (b.drop (2 + (b.getD 1 0).toNat)) (b.getD 0 0) (hb.drop _)
    have hB : isB ((b.drop 2).take (b.getD 1 0).toNat) := (hb.drop 2).take _
    have hL : ((b.drop 2).take (b.getD 1 0).toNat).length ≤ 255 := by rw [List.length_take]; omega
    have hno : okTags last ([] : List Elem) ∧ ∀ x ∈ ([] : List Elem), wX w x := ⟨trivial, fun _ h => by cases h⟩
    rw [getGo]
    split
    · exact hno
    · split
      · exact hno
      · split
        · exact hno
        · split
          · exact hno
          · split
            · rename_i h128
              exact consE_w (show last < b.getD 0 0 by omega) (show b.getD 0 0 ≤ 255 by omega) ⟨hB, hL, hn, fun _ => rfl, fun h => absurd (show (128 : Int) ≤ b.getD 0 0 from h) (by omega)⟩ ih.1 ih.2
            · split
              · rename_i h128 _
                exact consE_w (show last < b.getD 0 0 by omega) (show b.getD 0 0 ≤ 255 by omega) ⟨isB_nil, Nat.zero_le _, hrec _ hB hL, fun h => absurd (show b.getD 0 0 < 128 from h) h128, fun _ => rfl⟩ ih.1 ih.2
              · exact hno
theorem getP_w : ∀ (d : Nat) (b : List Int), isB b → wE d (getP d b).1
  | 0, b, hb => by
    rw [getP]
    cases hl : b.length with
    | zero => rfl
    | succ n => rw [getGo, hl, if_neg (by omega), if_pos rfl]; rfl
  | d + 1, b, hb => by
    rw [getP]
    exact getGo_w (wE_nil d) (fun c hc _ => getP_w d c hc) _ _ _ hb
/-- What is put down again. -/
def layB (rec : List Elem → List Int) (x : Elem) : List Int := if x.tag < 128 then x.bytes else rec x.elems
def layE (rec : List Elem → List Int) : List Elem → List Int
  | [] => []
  | x :: l => x.tag :: (layB rec x).length :: (layB rec x ++ layE rec l)
def layP : Nat → List Elem → List Int
  | 0, _ => []
  | d + 1, es => layE (layP d) es
theorem consE_ok {x : Elem} {r : List Elem × Int} (h : (consE x r).2 = 0) : consE x r = (x :: r.1, 0) ∧ r.2 = 0 := by
  unfold consE at h ⊢
  split
  · exact ⟨rfl, ‹_›⟩
  · rename_i hn; rw [if_neg hn] at h; exact absurd h hn
theorem cut2 {b : List Int} {n : Nat} (h : ¬ (b.length < 2 ∨ (b.length : Int) - 2 < n)) : b.getD 0 0 :: b.getD 1 0 :: ((b.drop 2).take n ++ b.drop (2 + n)) = b := by
  match b, h with
  | [], h => simp at h
  | [_], h => simp at h
  | x :: y :: b, h =>
    simp only [List.getD_cons_zero, List.getD_cons_succ, List.drop_succ_cons, List.drop_zero]
    rw [show 2 + n = n + 2 by omega]
    simp only [List.drop_succ_cons, List.take_append_drop]
theorem getGo_lay {d : Nat} {rec : List Int → List Elem × Int} {rec' : List Elem → List Int} (hrec : ∀ c, isB c → (rec c).2 = 0 → rec' (rec c).1 = c) :
    ∀ (f : Nat) (b : List Int) (last : Int), b.length ≤ f → isB b → (getGo d rec f b last).2 = 0 → layE rec' (getGo d rec f b last).1 = b
  | 0, b, last, hl, hb, h => (List.eq_nil_of_length_eq_zero (by omega)).symm
  | f + 1, b, last, hl, hb, h => by
    have t1 := hb.getD 1
    rw [getGo] at h ⊢
    split at h
    · rename_i h0
      rw [if_pos h0]
      exact (List.eq_nil_of_length_eq_zero h0).symm
    · rename_i h0
      rw [if_neg h0]
      split at h
      · cases h
      · rename_i h1
        rw [if_neg h1]
        split at h
        · cases h
        · rename_i h2
          rw [if_neg h2]
          split at h
          · cases h
          · rename_i h3
            have hc := cut2 (b := b) (n := (b.getD 1 0).toNat) (by omega)
            have hlen : ((b.drop 2).take (b.getD 1 0).toNat).length = (b.getD 1 0).toNat := by rw [List.length_take, List.length_drop]; omega
            have hz : (((b.drop 2).take (b.getD 1 0).toNat).length : Int) = b.getD 1 0 := by rw [hlen]; omega
            rw [if_neg h3]
            split at h
            · rename_i h4
              obtain ⟨e1, e2⟩ := consE_ok h
              rw [if_pos h4, e1]
              have ih := getGo_lay (d := d) hrec f _ _ (by rw [List.length_drop]; omega) (hb.drop _) e2
              simp only [layE, layB, if_pos h4]
              rw [ih, hz]
              exact hc
            · rename_i h4
              split at h
              · rename_i h5
                obtain ⟨e1, e2⟩ := consE_ok h
                rw [if_neg h4, if_pos h5, e1]
                have ih := getGo_lay (d := d) hrec f _ _ (by rw [List.length_drop]; omega) (hb.drop _) e2
                simp only [layE, layB, if_neg h4]
                rw [ih, hrec _ ((hb.drop 2).take _) h5, hz]
                exact hc
              · rename_i h5
                exact absurd h h5
theorem getP_lay : ∀ (d : Nat) (b : List Int), isB b → (getP d b).2 = 0 → layP d (getP d b).1 = b
  | 0, b, hb, h => by
    rw [getP] at h
    cases hl : b.length with
    | zero => exact (List.eq_nil_of_length_eq_zero hl).symm
    | succ n => rw [hl, getGo, hl, if_neg (by omega), if_pos rfl] at h; cases h
  | d + 1, b, hb, h => by
    rw [getP] at h ⊢
    exact getGo_lay (fun c hc hr => getP_lay d c hc hr) _ _ _ (Nat.le_refl _) hb h
/-! Numbers as bytes. -/
theorem leB_len : ∀ (f k : Nat) (n : Int), n < 256 ^ k → (leB f n).length ≤ k
  | 0, k, n, _ => Nat.zero_le _
  | f + 1, 0, n, h => by rw [leB, if_pos (by have : (256 : Int) ^ 0 = 1 := rfl; omega)]; exact Nat.le_refl _
  | f + 1, k + 1, n, h => by
    rw [leB]
    split
    · exact Nat.zero_le _
    · have := leB_len f k (n / 256) (by rw [Int.pow_succ] at h; omega)
      simp only [List.length_cons]; omega
theorem leB_isB : ∀ (f : Nat) (n : Int), isB (leB f n)
  | 0, n => isB_nil
  | f + 1, n => by
    rw [leB]
    split
    · exact isB_nil
    · intro x hx
      rcases List.mem_cons.1 hx with rfl | hx
      · omega
      · exact leB_isB f _ x hx
theorem leB_num : ∀ (f : Nat) (n : Int), 0 ≤ n → n < 256 ^ f → num (leB f n).reverse = n
  | 0, n, h, h' => by have : (256 : Int) ^ 0 = 1 := rfl; rw [leB]; simp only [List.reverse_nil, num, List.foldl_nil]; omega
  | f + 1, n, h, h' => by
    rw [leB]
    split
    · simp only [List.reverse_nil, num, List.foldl_nil]; omega
    · rw [List.reverse_cons, num_snoc, leB_num f (n / 256) (by omega) (by rw [Int.pow_succ] at h'; omega)]; omega
theorem num_nonneg {l : List Int} (h : isB l) : 0 ≤ num l := (num_lt h).1
/-- Bytes that don't begin with nought are those of their number. -/
theorem leB_of_num : ∀ (f : Nat) (l : List Int), isB l → l.length ≤ f → (∀ x, l.getLast? = some x → x ≠ 0) → leB f (num l.reverse) = l
  | f, [], _, _, _ => leB_nil (by simp [num])
  | 0, x :: l, _, h, _ => by simp at h
  | f + 1, x :: l, hb, h, hl => by
    have hx := hb x List.mem_cons_self
    have hbl : isB l := fun y hy => hb y (List.mem_cons_of_mem _ hy)
    have hr : 0 ≤ num l.reverse := num_nonneg fun y hy => hbl y (List.mem_reverse.1 hy)
    have hpos : 0 < 256 * num l.reverse + x := by
      cases l with
      | nil => have := hl x rfl; omega
      | cons y l' =>
        by_cases h0 : num (y :: l').reverse = 0
        · have ih := leB_of_num f (y :: l') hbl (by simp at h ⊢; omega) (fun z hz => hl z (by simpa using hz))
          rw [h0, leB_nil (Int.le_refl _)] at ih
          cases ih
        · omega
    rw [List.reverse_cons, num_snoc, leB, if_neg (by omega), show (256 * num l.reverse + x) % 256 = x by omega, show (256 * num l.reverse + x) / 256 = num l.reverse by omega,
      leB_of_num f l hbl (by simp at h; omega) (fun z hz => hl z (by cases l with | nil => cases hz | cons y l' => simpa using hz))]
theorem numB_isB (n : Int) : isB (numB n) := fun x hx => leB_isB 8 n x (List.mem_reverse.1 hx)
theorem numB_len {n : Int} {k : Nat} (h : n < 256 ^ k) : (numB n).length ≤ k := by rw [numB, List.length_reverse]; exact leB_len 8 k n h
theorem numB_num {n : Int} (h : 0 ≤ n) (h' : n < 256 ^ 7) : num (numB n) = n := leB_num 8 n h (by simp only [Int.reducePow] at *; omega)
theorem leB_last : ∀ (f : Nat) (n x : Int), 0 ≤ n → n < 256 ^ f → (leB f n).getLast? = some x → x ≠ 0
  | 0, n, x, h, h', hx => by cases hx
  | f + 1, n, x, h, h', hx => by
    rw [leB] at hx
    split at hx
    · cases hx
    · have h2 : n / 256 < 256 ^ f := by rw [Int.pow_succ] at h'; omega
      cases hr : leB f (n / 256) with
      | nil =>
        rw [hr] at hx
        have : n % 256 = x := Option.some.inj hx
        have h3 := leB_num f (n / 256) (by omega) h2
        rw [hr] at h3
        have : (0 : Int) = n / 256 := h3
        omega
      | cons y l =>
        rw [hr] at hx
        refine leB_last f (n / 256) x (by omega) h2 ?_
        rw [hr]
        simpa using hx
theorem numB_E {n : Int} (h : 0 ≤ n) (h' : n < 256 ^ 7) : intE (numB n) = 0 ∧ intV (numB n) = n := by
  have hE : intE (numB n) = 0 := by
    unfold intE
    rw [if_neg (by have := numB_len h'; omega)]
    refine if_neg fun hc => ?_
    obtain ⟨h1, h2⟩ := hc
    cases hr : leB 8 n with
    | nil => rw [numB, hr] at h1; simp at h1
    | cons y l =>
      obtain ⟨x, hx⟩ : ∃ x, (leB 8 n).getLast? = some x := by rw [hr]; exact ⟨_, List.getLast?_eq_some_getLast (List.cons_ne_nil _ _)⟩
      have hx0 := leB_last 8 n _ h (by simp only [Int.reducePow] at *; omega) hx
      apply hx0
      rw [List.getLast?_eq_getElem?] at hx
      rw [← h2, numB, List.getD_eq_getElem?_getD, List.getElem?_reverse (by rw [hr]; simp), Nat.sub_zero, hx]
      rfl
  exact ⟨hE, by rw [intV, if_pos hE, numB_num h h']⟩
theorem intV_back {b : List Int} (hb : isB b) (h : intE b = 0) : numB (intV b) = b := by
  rw [intV, if_pos h]
  have hl : b.length ≤ 7 := by unfold intE at h; split at h <;> first | omega | (cases h; done)
  have h0 : ¬ (0 < b.length ∧ b.getD 0 0 = 0) := by
    unfold intE at h
    intro hc
    rw [if_neg (by omega), if_pos hc] at h
    cases h
  have := leB_of_num 8 b.reverse (fun x hx => hb x (List.mem_reverse.1 hx)) (by rw [List.length_reverse]; omega) (fun x hx => by
    rw [List.getLast?_reverse] at hx
    cases b with
    | nil => cases hx
    | cons y l =>
      obtain rfl : y = x := Option.some.inj hx
      intro e
      exact h0 ⟨by simp, by simp [e]⟩)
  rw [List.reverse_reverse] at this
  rw [numB, this, List.reverse_reverse]
/-! A product's form. -/
def esG : Int → List Int → List Elem
  | _, [] => []
  | i, n :: ns => if n = 0 then esG (i + 1) ns else .mk (i + 1) (numB n) [] :: esG (i + 1) ns
def entL (i n : Int) : List Int := if n = 0 then [] else (i + 1) :: ((numB n).length : Int) :: numB n
def innL : Int → List Int → List Int
  | _, [] => []
  | i, n :: ns => entL i n ++ innL (i + 1) ns
def formB (p : Product) : List Int := 224 :: ((innL 0 (numsP p)).length : Int) :: innL 0 (numsP p)
theorem esG_snoc (n : Int) : ∀ (i : Int) (ns : List Int), esG i (ns ++ [n]) = esG i ns ++ (if n = 0 then [] else [.mk (i + ns.length + 1) (numB n) []])
  | i, [] => by simp only [List.nil_append, esG, List.length_nil, Int.natCast_zero, Int.add_zero]
  | i, m :: ns => by
    have ih := esG_snoc n (i + 1) ns
    have e : i + 1 + (ns.length : Int) + 1 = i + ((m :: ns).length : Nat) + 1 := by simp only [List.length_cons]; omega
    rw [e] at ih
    simp only [List.cons_append, esG, ih]
    split <;> rfl
theorem innL_snoc (n : Int) : ∀ (i : Int) (ns : List Int), innL i (ns ++ [n]) = innL i ns ++ entL (i + ns.length) n
  | i, [] => by simp only [List.nil_append, innL, List.length_nil, Int.natCast_zero, Int.add_zero, List.append_nil]
  | i, m :: ns => by
    have ih := innL_snoc n (i + 1) ns
    have e : i + 1 + (ns.length : Int) = i + ((m :: ns).length : Nat) := by simp only [List.length_cons]; omega
    rw [e] at ih
    simp only [List.cons_append, innL, ih, List.append_assoc]
/-- Numbers as they may be, of at most 7 bytes. -/
def okL (ns : List Int) : Prop := ∀ n ∈ ns, 0 ≤ n ∧ n < 256 ^ 7
theorem numB_pos {n : Int} (h : 0 < n) : 0 < (numB n).length := by rw [numB, List.length_reverse, leB, if_neg (by omega), List.length_cons]; omega
theorem esG_elem : ∀ (i : Int) (ns : List Int), ∀ x ∈ esG i ns, i < x.tag ∧ x.tag ≤ i + ns.length ∧ x.elems = [] ∧ ∃ n ∈ ns, x.bytes = numB n
  | i, [], x, h => by cases h
  | i, n :: ns, x, h => by
    rw [esG] at h
    simp only [List.length_cons]
    split at h
    · obtain ⟨h1, h2, h3, m, hm, h4⟩ := esG_elem (i + 1) ns x h
      exact ⟨by omega, by omega, h3, m, List.mem_cons_of_mem _ hm, h4⟩
    · rcases List.mem_cons.1 h with rfl | h
      · exact ⟨show i < i + 1 by omega, show i + 1 ≤ i + ((ns.length + 1 : Nat) : Int) by omega, rfl, n, List.mem_cons_self, rfl⟩
      · obtain ⟨h1, h2, h3, m, hm, h4⟩ := esG_elem (i + 1) ns x h
        exact ⟨by omega, by omega, h3, m, List.mem_cons_of_mem _ hm, h4⟩
theorem esG_right : ∀ (i l : Int) (ns : List Int), l ≤ i → i + ns.length ≤ 127 → rightGo (recR 1) l (esG i ns) = true
  | i, l, [], _, _ => rfl
  | i, l, n :: ns, h, h' => by
    simp only [List.length_cons] at h'
    rw [esG]
    split
    · exact esG_right (i + 1) l ns (by omega) (by omega)
    · rw [rightGo, if_neg]
      · exact esG_right (i + 1) (i + 1) ns (Int.le_refl _) (by omega)
      · unfold badR
        rintro (h1 | h1 | h1 | h1 | h1)
        · exact absurd (show i + 1 ≤ l from h1) (by omega)
        · exact absurd (show (255 : Int) < i + 1 from h1) (by omega)
        · exact absurd (show (128 : Int) ≤ i + 1 from h1.1) (by omega)
        · exact absurd (show 0 < 0 from h1.2) (by omega)
        · cases h1
theorem wrapU8' {n : Int} (h : 0 ≤ n) (h' : n < 256) : IntKind.u8.wrap n = n := by
  simp [IntKind.wrap, IntKind.bits, IntKind.signed]; omega
theorem esG_lay : ∀ (i : Int) (ns : List Int), 0 ≤ i → i + ns.length ≤ 127 → okL ns → layGo (recL 1) (esG i ns) = (innL i ns, true)
  | i, [], _, _, _ => rfl
  | i, n :: ns, h, h', ho => by
    simp only [List.length_cons] at h'
    have hn := ho n List.mem_cons_self
    have hl := numB_len hn.2
    have ih := esG_lay (i + 1) ns (by omega) (by omega) (fun m hm => ho m (List.mem_cons_of_mem _ hm))
    rw [esG, innL, entL]
    split
    · exact ih
    · have hb : bodyE (recL 1) (.mk (i + 1) (numB n) []) = numB n := if_pos (show i + 1 < 128 by omega)
      have hno : ¬ ((recL 1 (Elem.mk (i + 1) (numB n) []).elems).2 = false ∨ 255 < (numB n).length) := by
        rintro (h1 | h1)
        · cases h1
        · omega
      rw [layGo, hb, if_neg hno, ih]
      unfold preL
      rw [if_pos rfl]
      simp only [List.cons_append, List.nil_append, wrapU8' (show 0 ≤ i + 1 by omega) (show i + 1 < 256 by omega), wrapU8' (show (0 : Int) ≤ (numB n).length by omega) (show ((numB n).length : Int) < 256 by omega)]
theorem entL_len {i n : Int} {k : Nat} (h : n < 256 ^ k) : (entL i n).length ≤ k + 2 := by
  unfold entL
  split
  · simp
  · have := numB_len h; simp only [List.length_cons]; omega
theorem okUp_le (ns : List Int) : ∀ {m k : Nat}, k < m → okUp ns m = true → okN ns k = true
  | m + 1, k, hk, h => by
    rw [okUp, Bool.and_eq_true] at h
    by_cases e : k = m
    · subst e; exact h.2
    · exact okUp_le ns (by omega) h.1
theorem right_N {p : Product} (h : rightP p = true) {k : Nat} (hk : k < 14) : loP.getD k 0 ≤ (numsP p).getD k 0 ∧ (numsP p).getD k 0 ≤ hiP.getD k 0 := by
  have := okUp_le _ hk h
  rw [okN, Bool.and_eq_true, decide_eq_true_eq, decide_eq_true_eq] at this
  exact this
structure RightB (p : Product) : Prop where
  kind : 1 ≤ p.kind ∧ p.kind ≤ 4
  owner : 1 ≤ p.owner ∧ p.owner ≤ 4
  id : 1 ≤ p.id ∧ p.id ≤ 65535
  card : 1 ≤ p.card ∧ p.card ≤ 65535
  ver : 1 ≤ p.ver ∧ p.ver ≤ 255
  value : 0 ≤ p.value ∧ p.value ≤ 2147483648
  last : 0 ≤ p.last ∧ p.last ≤ 65535
  rides : 0 ≤ p.rides ∧ p.rides ≤ 255
  zone : 0 ≤ p.zone ∧ p.zone ≤ 255
  day : 0 ≤ p.day ∧ p.day ≤ 65535
  txn : 0 ≤ p.txn ∧ p.txn ≤ 65535
  act : 0 ≤ p.act ∧ p.act ≤ 65535
theorem b2i_le (b : Bool) : 0 ≤ b2i b ∧ b2i b ≤ 1 := by cases b <;> simp [b2i]
theorem right_iff {p : Product} : rightP p = true ↔ RightB p := by
  constructor
  · intro h
    exact ⟨right_N h (k := 0) (by decide), right_N h (k := 1) (by decide), right_N h (k := 2) (by decide), right_N h (k := 3) (by decide), right_N h (k := 4) (by decide), right_N h (k := 5) (by decide), right_N h (k := 6) (by decide), right_N h (k := 7) (by decide), right_N h (k := 9) (by decide), right_N h (k := 10) (by decide), right_N h (k := 11) (by decide), right_N h (k := 12) (by decide)⟩
  · rintro ⟨⟨a1, a2⟩, ⟨b1, b2⟩, ⟨c1, c2⟩, ⟨d1, d2⟩, ⟨e1, e2⟩, ⟨f1, f2⟩, ⟨g1, g2⟩, ⟨h1, h2⟩, ⟨i1, i2⟩, ⟨j1, j2⟩, ⟨k1, k2⟩, ⟨l1, l2⟩⟩
    have o := b2i_le p.open_
    have q := b2i_le p.blocked
    simp [rightP, okUp, okN, loP, hiP, numsP, *]
theorem right_okL {p : Product} (h : rightP p = true) : okL (numsP p) := by
  have r := right_iff.1 h
  have o := b2i_le p.open_
  have q := b2i_le p.blocked
  intro n hn
  simp only [numsP, List.mem_cons, List.not_mem_nil, or_false] at hn
  obtain ⟨⟨a1, a2⟩, ⟨b1, b2⟩, ⟨c1, c2⟩, ⟨d1, d2⟩, ⟨e1, e2⟩, ⟨f1, f2⟩, ⟨g1, g2⟩, ⟨h1, h2⟩, ⟨i1, i2⟩, ⟨j1, j2⟩, ⟨k1, k2⟩, ⟨l1, l2⟩⟩ := r
  simp only [Int.reducePow]
  rcases hn with rfl | rfl | rfl | rfl | rfl | rfl | rfl | rfl | rfl | rfl | rfl | rfl | rfl | rfl <;> omega
def fitK : List Int → List Nat → Prop
  | [], [] => True
  | n :: ns, k :: ks => n < 256 ^ k ∧ fitK ns ks
  | _, _ => False
theorem innL_len : ∀ (i : Int) (ns : List Int) (ks : List Nat), fitK ns ks → (innL i ns).length ≤ (ks.map (· + 2)).sum
  | i, [], [], _ => Nat.zero_le _
  | i, n :: ns, k :: ks, h => by
    have h1 := innL_len (i + 1) ns ks h.2
    have h2 := entL_len (i := i) h.1
    simp only [innL, List.length_append, List.map_cons, List.sum_cons]; omega
theorem inn_len {p : Product} (h : rightP p = true) : (innL 0 (numsP p)).length ≤ 51 := by
  have r := right_iff.1 h
  have o := b2i_le p.open_
  have q := b2i_le p.blocked
  obtain ⟨⟨a1, a2⟩, ⟨b1, b2⟩, ⟨c1, c2⟩, ⟨d1, d2⟩, ⟨e1, e2⟩, ⟨f1, f2⟩, ⟨g1, g2⟩, ⟨h1, h2⟩, ⟨i1, i2⟩, ⟨j1, j2⟩, ⟨k1, k2⟩, ⟨l1, l2⟩⟩ := r
  refine innL_len 0 (numsP p) [1, 1, 2, 2, 1, 4, 2, 1, 1, 1, 2, 2, 2, 1] ?_
  simp only [numsP, fitK, and_true, Int.reducePow]
  refine ⟨?_, ?_, ?_, ?_, ?_, ?_, ?_, ?_, ?_, ?_, ?_, ?_, ?_, ?_⟩ <;> omega
def outE (es : List Elem) : List Elem := [.mk 224 [] es]
theorem form_put {p : Product} (h : rightP p = true) : putTE (outE (esG 0 (numsP p))) = 0 ∧ putT (outE (esG 0 (numsP p))) = formB p := by
  have hl := inn_len h
  have hlay : layS 1 (esG 0 (numsP p)) = (innL 0 (numsP p), true) := esG_lay 0 (numsP p) (Int.le_refl _) (by simp [numsP]) (right_okL h)
  have hr : rightS 1 (esG 0 (numsP p)) = true := esG_right 0 0 (numsP p) (Int.le_refl _) (by simp [numsP])
  have e1 : rightS 2 (outE (esG 0 (numsP p))) = true := by
    show rightGo (rightS 1) 0 (outE (esG 0 (numsP p))) = true
    rw [outE, rightGo, if_neg]
    · rfl
    · unfold badR
      rintro (h1 | h1 | h1 | h1 | h1)
      · exact absurd (show (224 : Int) ≤ 0 from h1) (by decide)
      · exact absurd (show (255 : Int) < 224 from h1) (by decide)
      · exact absurd (show 0 < 0 from h1.2) (by decide)
      · exact absurd (show (224 : Int) < 128 from h1.1) (by decide)
      · rw [show (Elem.mk 224 [] (esG 0 (numsP p))).elems = esG 0 (numsP p) from rfl, hr] at h1; cases h1
  have e2 : layS 2 (outE (esG 0 (numsP p))) = (formB p, true) := by
    show layGo (layS 1) (outE (esG 0 (numsP p))) = _
    have hb : bodyE (layS 1) (.mk 224 [] (esG 0 (numsP p))) = innL 0 (numsP p) := by
      rw [bodyE, if_neg (show ¬ (224 : Int) < 128 by decide), show (Elem.mk 224 [] (esG 0 (numsP p))).elems = esG 0 (numsP p) from rfl, hlay]
    have hno : ¬ ((layS 1 (Elem.mk 224 [] (esG 0 (numsP p))).elems).2 = false ∨ 255 < (innL 0 (numsP p)).length) := by
      rintro (h1 | h1)
      · rw [show (Elem.mk 224 [] (esG 0 (numsP p))).elems = esG 0 (numsP p) from rfl, hlay] at h1; cases h1
      · omega
    rw [outE, layGo, hb, if_neg hno, layGo, preL, if_pos rfl, List.append_nil, show (Elem.mk 224 [] (esG 0 (numsP p))).tag = 224 from rfl, wrapU8' (show (0 : Int) ≤ (innL 0 (numsP p)).length by omega) (show ((innL 0 (numsP p)).length : Int) < 256 by omega)]
    rfl
  have e3 : putTE (outE (esG 0 (numsP p))) = 0 := by rw [putTE, e1, e2, if_neg (by decide), if_neg Bool.noConfusion]
  exact ⟨e3, by rw [putT, if_pos e3, e2]⟩
def formE (p : Product) : Int := bif rightP p then 0 else 2
def formL (p : Product) : List Int := bif rightP p then formB p else []
def zP : Product := ⟨0, 0, 0, 0, 0, 0, 0, 0, false, 0, 0, 0, 0, false⟩
def notR (p : Product) : Bool := !rightP p
theorem any_notR : ∀ ps : List Product, ps.any notR = !ps.all rightP
  | [] => rfl
  | p :: ps => by rw [List.any_cons, List.all_cons, any_notR ps, notR, Bool.not_and]
theorem esG_length : ∀ (i : Int) (ns : List Int), (esG i ns).length ≤ ns.length
  | i, [] => Nat.le_refl _
  | i, n :: ns => by
    have := esG_length (i + 1) ns
    rw [esG]
    split <;> simp only [List.length_cons] <;> omega
theorem outE_w {i : Int} (ns : List Int) (hl : ns.length ≤ 14) (ho : okL ns) : hE 2 [.mk 224 [] (esG i ns)] ∧ lE 2 [.mk 224 [] (esG i ns)] := by
  have h1 : ∀ x ∈ esG i ns, x.elems = [] := fun x hx => (esG_elem i ns x hx).2.2.1
  have h2 := esG_length i ns
  refine ⟨fun x hx => ?_, by simp, fun x hx => ?_⟩
  · obtain rfl := List.mem_singleton.1 hx
    exact fun y hy => h1 y hy
  · obtain rfl := List.mem_singleton.1 hx
    refine ⟨Nat.zero_le _, show (esG i ns).length ≤ 1048576 by omega, fun y hy => ?_⟩
    obtain ⟨_, _, h3, n, hn, h4⟩ := esG_elem i ns y hy
    have := numB_len (ho n hn).2
    exact ⟨by rw [h4]; omega, by rw [h3]; exact Nat.zero_le _⟩
def IFm (p : Product) (i : Int) (es : List Elem) : Prop := ∃ j : Nat, j ≤ 14 ∧ i = j ∧ es = esG 0 ((numsP p).take j)


end Go.Proofs.Ythbmllekbbfobaa.Sx
