import Derived.Test.YthbmllekbbfobaaProg
import Derived.Test.YthbmllekbbfobaaSxU
import Derived.IntWalk
import Derived.Test.YthbmllekbbfobaaL7
/-! lists, laws -/
namespace Go.Proofs.Ythbmllekbbfobaa.Sx
open Go
set_option linter.unusedVariables false
set_option linter.unusedSimpArgs false
set_option maxRecDepth 100000

theorem getD_td {α : Type} {b : List α} {p m i : Nat} {d : α} (hi : i < m) : ((b.drop p).take m).getD i d = b.getD (p + i) d := by
  simp [List.getD, List.getElem?_take, hi]
theorem bytesF_isB' (fs : List FieldT) : isB (bytesF fs) := by
  induction fs with
  | nil => exact fun x hx => by simp [bytesF] at hx
  | cons f fs ih => rw [show bytesF (f :: fs) = be (f.width.toNat / 8) f.value ++ bytesF fs from rfl]; exact (be_isB _ _).append ih
theorem formIs_isB : ∀ l : List Item, isB (formIs l)
  | [] => fun x hx => by simp [formIs] at hx
  | x :: l => by rw [show formIs (x :: l) = bytesF (fieldsI x) ++ formIs l from rfl]; exact (bytesF_isB' _).append (formIs_isB l)
theorem putD_isB (to : Int) (add off : List Item) : isB (putD to add off) := by
  unfold putD
  split
  · exact (bytesF_isB' _).append (formIs_isB _)
  · exact fun x hx => by simp at hx
theorem putD_length {to : Int} {add off : List Item} : (putD to add off).length ≤ 6 + 20 * (add.length + off.length) := by
  unfold putD
  split
  · rw [List.length_append, head_length, formIs_length, List.length_append]; omega
  · simp
theorem num_beL : ∀ (k : Nat) (n : Int), 0 ≤ n → n < 2 ^ (8 * k) → num (be k n) = n
  | 0, n, h, h' => by
    simp at h'
    have : n = 0 := by omega
    subst this; rfl
  | k + 1, n, h, h' => by
    have h2 : n / 256 < 2 ^ (8 * k) := by
      rw [pow_mul (show 8 * (k + 1) = 8 * k + 8 by omega)] at h'
      exact Int.ediv_lt_of_lt_mul (by decide) (by simpa using h')
    simp only [be, num_snoc]
    rw [num_beL k _ (Int.ediv_nonneg h (by decide)) h2]
    omega
theorem be_numL {l : List Int} (h : isB l) : be l.length (num l) = l := by
  have : ∀ (n : Nat) (l : List Int), l.length = n → isB l → be l.length (num l) = l := by
    intro n
    induction n with
    | zero => intro l hl _; rw [List.length_eq_zero_iff.1 hl]; rfl
    | succ n ih =>
      intro l hl hB
      have e : l = l.take n ++ [l.getD n 0] := by rw [← take_succ (by omega), List.take_of_length_le (by omega)]
      have hx := hB.getD n
      have hi := ih (l.take n) (by rw [List.length_take]; omega) (hB.take n)
      have e2 : num l = 256 * num (l.take n) + l.getD n 0 := by rw [← num_snoc, ← e]
      rw [hl, e2]
      simp only [be]
      rw [show (256 * num (l.take n) + l.getD n 0) / 256 = num (l.take n) by omega, show (256 * num (l.take n) + l.getD n 0) % 256 = l.getD n 0 by omega]
      rw [List.length_take, Nat.min_eq_left (by omega)] at hi
      rw [hi, ← e]
  exact this _ l rfl h
theorem rd_bytesL : ∀ (fs : List FieldT) (rest : List Int), fs.all rightF = true → (∀ f ∈ fs, f.width % 8 = 0) → rd (bytesF fs ++ rest) (fs.map (·.width)) = fs.map (·.value)
  | [], _, _, _ => rfl
  | f :: fs, rest, h, h8 => by
    rw [List.all_cons, Bool.and_eq_true] at h
    have hr := rightF_w h.1
    have hw := h8 f (by simp)
    have hl := be_length (f.width.toNat / 8) f.value
    have e : bytesF (f :: fs) ++ rest = be (f.width.toNat / 8) f.value ++ (bytesF fs ++ rest) := by simp [bytesF]
    simp only [List.map_cons, rd]
    rw [e, List.take_append_of_le_length (by omega), List.take_of_length_le (by omega), List.drop_append_of_le_length (by omega), List.drop_of_length_le (by omega), List.nil_append, rd_bytesL fs rest h.2 (fun x hx => h8 x (by simp [hx]))]
    rw [num_beL _ _ hr.2.2.1 (by rw [show 8 * (f.width.toNat / 8) = f.width.toNat by omega]; exact hr.2.2.2)]
theorem bytes_rdL : ∀ (ws : List Int) (b : List Int), isB b → sumB ws ≤ b.length → bytesF (List.zipWith FieldT.mk ws (rd b ws)) = b.take (sumB ws)
  | [], b, _, _ => rfl
  | w :: ws, b, hB, hl => by
    simp only [sumB] at hl
    simp only [rd, List.zipWith_cons_cons, sumB]
    have e : bytesF (⟨w, num (b.take (w.toNat / 8))⟩ :: List.zipWith FieldT.mk ws (rd (b.drop (w.toNat / 8)) ws)) = be (w.toNat / 8) (num (b.take (w.toNat / 8))) ++ bytesF (List.zipWith FieldT.mk ws (rd (b.drop (w.toNat / 8)) ws)) := by simp [bytesF]
    have h1 := be_numL (hB.take (w.toNat / 8))
    rw [List.length_take, Nat.min_eq_left (by omega)] at h1
    rw [e, h1, bytes_rdL ws _ (hB.drop _) (by rw [List.length_drop]; omega), List.take_add]
theorem rd_item (b : List Int) : rd b [32, 32, 32, 32, 32] = [num (b.take 4), num ((b.drop 4).take 4), num ((b.drop 8).take 4), num ((b.drop 12).take 4), num ((b.drop 16).take 4)] := by
  simp only [rd, List.drop_drop]; rfl
theorem fieldsI_right {x : Item} (h : badI x = false) : (fieldsI x).all rightF = true := by
  obtain ⟨h1, h2, h3, h4, h5⟩ := badI_iff.1 h
  simp only [fieldsI, List.all_cons, List.all_nil, right32 h1.1 h1.2, right32 h2.1 h2.2, right32 h3.1 h3.2, right32 h4.1 h4.2, right32 h5.1 h5.2]
  rfl
theorem fieldsI_8 (x : Item) : ∀ f ∈ fieldsI x, f.width % 8 = 0 := by
  intro f hf
  simp only [fieldsI, List.mem_cons, List.not_mem_nil, or_false] at hf
  rcases hf with rfl | rfl | rfl | rfl | rfl <;> rfl
theorem item_form {x : Item} (h : badI x = false) (r : List Int) : itemAt (bytesF (fieldsI x) ++ r) = x := by
  have e := rd_bytesL (fieldsI x) r (fieldsI_right h) (fieldsI_8 x)
  rw [show (fieldsI x).map (·.width) = [32, 32, 32, 32, 32] from rfl, rd_item] at e
  simp only [fieldsI, List.map_cons, List.map_nil, List.cons.injEq, and_true] at e
  obtain ⟨e1, e2, e3, e4, e5⟩ := e
  unfold itemAt
  simp only [fieldsI]
  rw [e1, e2, e3, e4, e5]
theorem form_item {b : List Int} (hB : isB b) (h : 20 ≤ b.length) : bytesF (fieldsI (itemAt b)) = b.take 20 := by
  have e := bytes_rdL [32, 32, 32, 32, 32] b hB h
  rw [rd_item] at e
  exact e
theorem items_forms : ∀ (l : List Item) (r : List Int), l.any badI = false → itemsAt l.length (formIs l ++ r) = l
  | [], r, _ => rfl
  | x :: l, r, h => by
    rw [List.any_cons, Bool.or_eq_false_iff] at h
    have e : formIs (x :: l) ++ r = bytesF (fieldsI x) ++ (formIs l ++ r) := by simp [formIs]
    rw [e, List.length_cons, itemsAt, item_form h.1, List.drop_append_of_le_length (by rw [bytesI_length]; omega), List.drop_of_length_le (by rw [bytesI_length]; omega), List.nil_append, items_forms l r h.2]
theorem forms_items : ∀ (n : Nat) (b : List Int), isB b → 20 * n ≤ b.length → formIs (itemsAt n b) = b.take (20 * n)
  | 0, b, _, _ => by simp [itemsAt, formIs]
  | n + 1, b, hB, h => by
    have e : formIs (itemsAt (n + 1) b) = bytesF (fieldsI (itemAt b)) ++ formIs (itemsAt n (b.drop 20)) := by simp [formIs, itemsAt]
    rw [e, form_item hB (by omega), forms_items n _ (hB.drop _) (by rw [List.length_drop]; omega), show 20 * (n + 1) = 20 + 20 * n by omega, List.take_add]
theorem right8 {n : Nat} (h : n ≤ 64) : rightF ⟨8, n⟩ = true := by
  simp only [rightF, Bool.and_eq_true, decide_eq_true_eq]
  exact ⟨⟨⟨by decide, by decide⟩, by omega⟩, by show (n : Int) < 256; omega⟩
theorem headD_rd {b : List Int} (h : 6 ≤ b.length) : headD b = rd b [32, 8, 8] := by
  unfold headD takeN
  rw [if_pos (headE_ok h)]; rfl
theorem putDE_zero {to : Int} {add off : List Item} (h : putDE to add off = 0) : 1 ≤ to ∧ to < 2147483648 ∧ (add ++ off).any badI = false ∧ add.length ≤ 64 ∧ off.length ≤ 64 := by
  unfold putDE at h
  split at h
  · cases h
  · split at h
    · cases h
    · split at h
      · cases h
      · rename_i h1 h2 h3
        exact ⟨by omega, by omega, by simpa using h2, by omega, by omega⟩
theorem get_put {to : Int} {add off : List Item} (h : putDE to add off = 0) : getDE (putD to add off) = 0 ∧ (getD_ (putD to add off)).to = to ∧ (getD_ (putD to add off)).add = add ∧ (getD_ (putD to add off)).off = off ∧ add.length ≤ 64 ∧ off.length ≤ 64 := by
  obtain ⟨h1, h2, h3, h4, h5⟩ := putDE_zero h
  have eb : putD to add off = bytesF [⟨32, to⟩, ⟨8, (add.length : Int)⟩, ⟨8, (off.length : Int)⟩] ++ formIs (add ++ off) := if_pos h
  rw [eb]
  generalize hb : bytesF [⟨32, to⟩, ⟨8, (add.length : Int)⟩, ⟨8, (off.length : Int)⟩] ++ formIs (add ++ off) = b
  have hl : b.length = 6 + 20 * (add.length + off.length) := by rw [← hb, List.length_append, head_length, formIs_length, List.length_append]
  have hd : headD b = [to, (add.length : Int), (off.length : Int)] := by
    rw [headD_rd (by omega), ← hb]
    refine rd_bytesL [⟨32, to⟩, ⟨8, (add.length : Int)⟩, ⟨8, (off.length : Int)⟩] _ ?_ ?_
    · simp only [List.all_cons, List.all_nil, right32 (v := to) (by omega) (by omega), right8 h4, right8 h5]; rfl
    · intro f hf
      simp only [List.mem_cons, List.not_mem_nil, or_false] at hf
      rcases hf with rfl | rfl | rfl <;> rfl
  have hc : cntD b = (add ++ off).length := by unfold cntD; rw [hd, List.length_append]; simp only [List.getD_cons_succ, List.getD_cons_zero]; omega
  have hdr : b.drop 6 = formIs (add ++ off) ++ [] := by
    rw [← hb, List.drop_append_of_le_length (by rw [head_length]; omega), List.drop_of_length_le (by rw [head_length]; omega), List.append_nil]; rfl
  have hi : itemsAt (cntD b) (b.drop 6) = add ++ off := by rw [hdr, hc]; exact items_forms _ _ h3
  have he : getDE b = 0 := by
    unfold getDE
    rw [hi, hd, hc, List.length_append]
    simp only [List.getD_cons_succ, List.getD_cons_zero]
    rw [if_neg (by omega), if_neg (by omega), if_neg (by omega), if_neg (by omega), if_neg (by rw [h3]; simp)]
  refine ⟨he, ?_⟩
  unfold getD_
  rw [if_pos he, hi, hd]
  simp [h4, h5]
theorem getDE_zero {b : List Int} (h : getDE b = 0) : 6 ≤ b.length ∧ 1 ≤ (headD b).getD 0 0 ∧ (headD b).getD 0 0 < 2147483648 ∧ (headD b).getD 1 0 ≤ 64 ∧ (headD b).getD 2 0 ≤ 64 ∧ (b.length : Int) = 6 + 20 * cntD b ∧ (itemsAt (cntD b) (b.drop 6)).any badI = false := by
  unfold getDE at h
  split at h
  · cases h
  · split at h
    · cases h
    · split at h
      · cases h
      · split at h
        · cases h
        · split at h
          · cases h
          · rename_i h1 h2 h3 h4 h5
            exact ⟨by omega, by omega, by omega, by omega, by omega, by omega, by simpa using h5⟩
theorem put_get {b : List Int} (hB : isB b) (h : getDE b = 0) : (getD_ b).to = (headD b).getD 0 0 ∧ (getD_ b).add = (itemsAt (cntD b) (b.drop 6)).take ((headD b).getD 1 0).toNat ∧ (getD_ b).off = ((itemsAt (cntD b) (b.drop 6)).drop ((headD b).getD 1 0).toNat).take ((headD b).getD 2 0).toNat ∧
    putDE (getD_ b).to (getD_ b).add (getD_ b).off = 0 ∧ putD (getD_ b).to (getD_ b).add (getD_ b).off = b := by
  obtain ⟨h6, h1, h2, h3, h4, h5, h7⟩ := getDE_zero h
  obtain ⟨r0, r1, r2, r3⟩ := head_rng hB h6
  obtain ⟨c1, c2, c3⟩ := cnt_ok hB h6
  have hil := itemsAt_length (cntD b) (b.drop 6)
  have eo : (getD_ b).off = (itemsAt (cntD b) (b.drop 6)).drop ((headD b).getD 1 0).toNat := by unfold getD_; rw [if_pos h]
  have et : (getD_ b).to = (headD b).getD 0 0 := by unfold getD_; rw [if_pos h]
  have ea : (getD_ b).add = (itemsAt (cntD b) (b.drop 6)).take ((headD b).getD 1 0).toNat := by unfold getD_; rw [if_pos h]
  have eao : (getD_ b).add ++ (getD_ b).off = itemsAt (cntD b) (b.drop 6) := by rw [ea, eo, List.take_append_drop]
  have la : (getD_ b).add.length = ((headD b).getD 1 0).toNat := by rw [ea, List.length_take, hil]; omega
  have lo : (getD_ b).off.length = ((headD b).getD 2 0).toNat := by rw [eo, List.length_drop, hil]; omega
  have hp : putDE (getD_ b).to (getD_ b).add (getD_ b).off = 0 := by
    unfold putDE
    rw [eao, et, if_neg (by omega), if_neg (by rw [h7]; simp), if_neg (by omega)]
  refine ⟨et, ea, ?_, hp, ?_⟩
  · rw [eo, List.take_of_length_le]
    rw [List.length_drop, hil]; omega
  · unfold putD
    rw [if_pos hp, eao, forms_items _ _ (hB.drop 6) (by rw [List.length_drop]; omega), List.take_of_length_le (l := b.drop 6) (by rw [List.length_drop]; omega), et, la, lo,
      show (((headD b).getD 1 0).toNat : Int) = (headD b).getD 1 0 by omega, show (((headD b).getD 2 0).toNat : Int) = (headD b).getD 2 0 by omega]
    have e := bytes_rdL [32, 8, 8] b hB (by simp [sumB]; omega)
    rw [← headD_rd h6] at e
    have e3 : headD b = [(headD b).getD 0 0, (headD b).getD 1 0, (headD b).getD 2 0] := by
      match headD b, r3 with
      | [x, y, z], _ => rfl
    rw [e3] at e
    have e' : bytesF [⟨32, (headD b).getD 0 0⟩, ⟨8, (headD b).getD 1 0⟩, ⟨8, (headD b).getD 2 0⟩] = b.take 6 := e
    rw [e', List.take_append_drop]
theorem putD_no {to : Int} {add off : List Item} (h : putDE to add off ≠ 0) : putD to add off = [] := if_neg h
theorem getD_no {b : List Int} (h : getDE b ≠ 0) : getD_ b = ⟨0, [], []⟩ := if_neg h
theorem getD_len (b : List Int) (h : isB b) : (getD_ b).add.length ≤ 512 ∧ (getD_ b).off.length ≤ 512 := by
  by_cases e : getDE b = 0
  · obtain ⟨h6, _⟩ := getDE_zero e
    obtain ⟨c1, c2, c3⟩ := cnt_ok h h6
    unfold getD_
    rw [if_pos e]
    simp only [List.length_take, List.length_drop, itemsAt_length]
    omega
  · rw [getD_no e]; simp
theorem items_len (b : List Int) (n m : Nat) (k : Nat) : (((itemsAt k b).drop n).take m).length ≤ k := by simp [itemsAt_length]; omega


end Go.Proofs.Ythbmllekbbfobaa.Sx
