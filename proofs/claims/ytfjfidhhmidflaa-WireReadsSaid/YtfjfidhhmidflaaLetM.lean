
/- What Write makes, Read reads back: the plain law. (Its first lines are XEncBackM's.) -/

import Derived.Test.YtfjfidhhmidflaaLet13

import Derived.Test.YtfjfidhhmidflaaLet16

namespace Go.Proofs.Ytfjfidhhmidflaa

set_option linter.unusedVariables false

set_option linter.unusedSimpArgs false

open Go.RowKit

theorem u8_small (m : Nat) (h : m < 256) : (UInt8.ofNat m).toNat = m := by rw [UInt8.toNat_ofNat']; omega
theorem numS_back (mo : Int) (r : List UInt8) : ∀ (k i acc m : Nat), k + i = 9 → m < 128 ^ k → acc + m * 128 ^ i ≤ 4611686018427387904 → ((acc + m * 128 ^ i : Nat) : Int) ≤ mo → (0 < i → 0 < m) →
    numS mo k i acc (numF (k + 1) m ++ r) = some (acc + m * 128 ^ i, r)
  | 0, i, acc, m, hk, hm, _, _, hi => by
    have := hi (by omega)
    simp at hm
    omega
  | k + 1, i, acc, m, hk, hm, h1, h2, hi => by
    by_cases hlt : m < 128
    · rw [numF_lt _ _ hlt]
      have hc : (UInt8.ofNat m).toNat = m := u8_small m (by omega)
      simp only [List.cons_append, List.nil_append, numS, hc]
      have hmod : m % 128 = m := Nat.mod_eq_of_lt hlt
      rw [if_neg (by omega), hmod, if_neg]
      rintro (h | h | ⟨h, h'⟩)
      · omega
      · omega
      · have := hi h'; omega
    · rw [numF_ge _ _ (by omega)]
      have hc : (UInt8.ofNat (m % 128 + 128)).toNat = m % 128 + 128 := u8_small _ (by omega)
      simp only [List.cons_append, numS, hc]
      have hmod : (m % 128 + 128) % 128 = m % 128 := by omega
      rw [if_pos (by omega), hmod]
      have e : acc + m % 128 * 128 ^ i + m / 128 * 128 ^ (i + 1) = acc + m * 128 ^ i := by
        rw [Nat.pow_succ, Nat.mul_comm (128 ^ i) 128, ← Nat.mul_assoc, Nat.add_assoc, ← Nat.add_mul]
        congr 2
        omega
      have := numS_back mo r k (i + 1) (acc + m % 128 * 128 ^ i) (m / 128) (by omega) (by rw [Nat.pow_succ] at hm; omega) (by rw [e]; exact h1) (by rw [e]; exact h2) (fun _ => by omega)
      rw [this, e]
theorem getNum_back (n : Nat) (mo : Int) (r : List UInt8) (h : n ≤ 4611686018427387904) (hm : (n : Int) ≤ mo) : getNum (some (numB n ++ r)) mo = (n, some r) := by
  have := numS_back mo r 9 0 0 n rfl (by have h3 : (128 : Nat) ^ 9 = 9223372036854775808 := by decide
                                         omega) (by simpa using h) (by simpa using hm) (fun h => by omega)
  simp only [Nat.pow_zero, Nat.mul_one, Nat.zero_add] at this
  simp only [getNum, numB, this]
theorem getId_back (id r : List UInt8) (h : id.length = 32) : getId (some (id ++ r)) = (id, some r) := by
  unfold getId
  rw [getN_yes (by simp; omega)]
  dsimp only
  rw [← h, List.take_left, List.drop_left]
  have : padId id = id := by unfold padId; rw [if_neg (by intro h0; rw [h0] at h; simp at h)]
  rw [this]

theorem getNum_w (x mo : Int) (r : List UInt8) (h0 : 0 ≤ x) (h1 : x ≤ mo) (hm : mo ≤ 4611686018427387904) : getNum (some (numB (clampN x) ++ r)) mo = (x.toNat, some r) := by
  have hc : clampN x = x.toNat := by unfold clampN; rw [if_neg (by omega), if_neg (by omega)]
  rw [hc]
  exact getNum_back x.toNat mo r (by omega) (by omega)
theorem getText_w (s r : List UInt8) (mo : Int) (h : (s.length : Int) ≤ mo) (hm : mo ≤ 4611686018427387904) : getText (some (textB s ++ r)) mo = (s, some r) := by
  unfold getText textB
  rw [List.append_assoc, getNum_w (s.length : Int) mo (s ++ r) (by omega) h hm]
  dsimp only
  rw [getN_yes (by simp)]
  simp
theorem four_fourB (u : Nat) (h : u < 4294967296) : four (fourB u) = u := by
  simp only [fourB, four]
  rw [UInt8.toNat_ofNat', UInt8.toNat_ofNat', UInt8.toNat_ofNat', UInt8.toNat_ofNat']
  omega
theorem getFour_w (u : Nat) (h : u < 4294967296) : getFour (some (fourB u)) = (u, some []) := by
  unfold getFour
  rw [getN_yes (Nat.le_refl 4)]
  have h1 : (fourB u).take 4 = fourB u := rfl
  have h2 : (fourB u).drop 4 = [] := rfl
  rw [h1, h2, four_fourB u h]
theorem idsK_w (ids : List (List UInt8)) (r : List UInt8) (h : iOk ids) : ∀ k, k ≤ ids.length → idsK k (some (ids.flatten ++ r)) = (ids.take k, some ((ids.drop k).flatten ++ r))
  | 0, _ => by simp [idsK]
  | k + 1, hk => by
    have ih := idsK_w ids r h k (by omega)
    have hd : ids.drop k = ids[k] :: ids.drop (k + 1) := List.drop_eq_getElem_cons (by omega)
    have ht : ids.take (k + 1) = ids.take k ++ [ids[k]] := by rw [List.take_add_one, List.getElem?_eq_getElem (by omega)]; rfl
    have hg : getId (some ((ids.drop k).flatten ++ r)) = (ids[k], some ((ids.drop (k + 1)).flatten ++ r)) := by
      rw [hd, List.flatten_cons, List.append_assoc]
      exact getId_back _ _ (iOk_get h k (by omega))
    show (((idsK k _).1 ++ [(getId (idsK k _).2).1], (getId (idsK k _).2).2) : List (List UInt8) × St) = _
    rw [ih]
    dsimp only
    rw [hg, ht]
theorem getIds_w (ids : List (List UInt8)) (r : List UInt8) (mo : Int) (h : iOk ids) (h1 : (ids.length : Int) ≤ mo) (hm : mo ≤ 4611686018427387904) : getIds (some (idsB ids ++ r)) mo = (ids, some r) := by
  unfold getIds idsB
  rw [List.append_assoc, getNum_w _ mo _ (by omega) h1 hm]
  dsimp only
  rw [Int.toNat_natCast, idsK_w ids r h _ (Nat.le_refl _), List.take_length, List.drop_length]
  simp
theorem mk_name (s : ByteArray) : (⟨s.data.toList.toArray⟩ : ByteArray) = s := by
  obtain ⟨⟨x⟩⟩ := s
  rfl
theorem refsK_w (rs : List RefM) (r : List UInt8) (h : ∀ x ∈ rs, x.name.size ≤ 60 ∧ x.id.length = 32) : ∀ k, k ≤ rs.length → refsK k (some (rs.flatMap refB ++ r)) = (rs.take k, some ((rs.drop k).flatMap refB ++ r))
  | 0, _ => by simp [refsK]
  | k + 1, hk => by
    have ih := refsK_w rs r h k (by omega)
    have hd : rs.drop k = rs[k] :: rs.drop (k + 1) := List.drop_eq_getElem_cons (by omega)
    have ht : rs.take (k + 1) = rs.take k ++ [rs[k]] := by rw [List.take_add_one, List.getElem?_eq_getElem (by omega)]; rfl
    have hx := h _ (List.getElem_mem (l := rs) (n := k) (by omega))
    have hg : getText (some ((rs.drop k).flatMap refB ++ r)) 60 = (rs[k].name.data.toList, some (rs[k].id ++ ((rs.drop (k + 1)).flatMap refB ++ r))) := by
      rw [hd, List.flatMap_cons, show refB rs[k] = textB rs[k].name.data.toList ++ rs[k].id from rfl, List.append_assoc, List.append_assoc]
      exact getText_w _ _ 60 (by rw [size_toList]; omega) (by decide)
    have hg2 := getId_back rs[k].id ((rs.drop (k + 1)).flatMap refB ++ r) hx.2
    show (((refsK k _).1 ++ [⟨⟨(getText (refsK k _).2 60).1.toArray⟩, (getId (getText (refsK k _).2 60).2).1⟩], (getId (getText (refsK k _).2 60).2).2) : List RefM × St) = _
    rw [ih]
    dsimp only
    rw [hg]
    dsimp only
    rw [hg2, ht, mk_name]
theorem getRefs_w (rs : List RefM) (r : List UInt8) (h : ∀ x ∈ rs, x.name.size ≤ 60 ∧ x.id.length = 32) (h1 : rs.length ≤ 100) : getRefs (some (refsB rs ++ r)) = (rs, some r) := by
  unfold getRefs refsB
  rw [List.append_assoc, getNum_w _ 100 _ (by omega) (by omega) (by decide)]
  dsimp only
  rw [Int.toNat_natCast, refsK_w rs r h _ (Nat.le_refl _), List.take_length, List.drop_length]
  simp
theorem headR_w (l : Lt) (r : List UInt8) (hk : 0 ≤ l.kind ∧ l.kind ≤ 4) (hh : headB l = true) : headR (some (headW l ++ r)) = (⟨l.kind, l.from_, l.to_, l.session, [], [], [], 0, 0, zeros32, []⟩, some r) := by
  have h : 1 ≤ l.from_ ∧ l.from_ ≤ 65536 ∧ 1 ≤ l.to_ ∧ l.to_ ≤ 65536 ∧ 1 ≤ l.session ∧ l.session ≤ 1099511627776 := by
    unfold headB withinB at hh
    simp at hh
    omega
  unfold headR headW
  rw [List.append_assoc, List.append_assoc, List.append_assoc]
  rw [getNum_w l.kind 4 _ hk.1 hk.2 (by decide)]
  dsimp only
  rw [getNum_w l.from_ 65536 _ (by omega) (by omega) (by decide)]
  dsimp only
  rw [getNum_w l.to_ 65536 _ (by omega) (by omega) (by decide)]
  dsimp only
  rw [getNum_w l.session 1099511627776 _ (by omega) (by omega) (by decide)]
  dsimp only
  rw [Int.toNat_of_nonneg hk.1, Int.toNat_of_nonneg (by omega), Int.toNat_of_nonneg (by omega), Int.toNat_of_nonneg (by omega)]
/-- a letter whose parts lie in memory -/
structure LtOk (l : Lt) : Prop where
  len : l.pack.length = 32
  rok : rOk l.refs
  wok : iOk l.wants
  hok : iOk l.haves
theorem LtIn.lok {w : World} {l : Lt} {p : LtP} (h : LtIn w l p) : LtOk l := ⟨h.len, h.rok, h.wok, h.hok⟩
theorem restR_w (l : Lt) (h : rightL l = true) (ho : LtOk l) : restR (⟨l.kind, l.from_, l.to_, l.session, [], [], [], 0, 0, zeros32, []⟩, some (bodyW l)) = (l, some []) := by
  have hb := (rightL_parts h).2.1
  rcases right_kind h with hk | hk | hk | hk
  · rw [restR_0 (by simp only; omega) (by simp only; omega) (by simp only; omega), bodyW_1 (by omega) (by omega) (by omega)]
    congr 1
    rw [hb]
    unfold bareL
    rw [if_neg (by omega), if_neg (by omega), if_neg (by omega)]
    rfl
  · have hr := right_refs h hk
    have hw := getRefs_w l.refs [] (fun r hr' => by
      obtain ⟨i, hi, rfl⟩ := List.getElem_of_mem hr'
      exact ⟨nameS_size (refsAll_get hr.1 i hi).1, (ho.rok _ hr').1⟩) hr.2
    rw [List.append_nil] at hw
    rw [restR_2 (by simp only; omega), bodyW_2 hk, hw]
    congr 1
    generalize hl : bareL l = m at hb
    rw [hb, ← hl]
    unfold bareL
    rw [if_pos hk]
  · have hr := right_ids h hk
    have h1 := getIds_w l.wants (idsB l.haves ++ numB (clampN l.off)) 100 ho.wok (by omega) (by decide)
    have h2 := getIds_w l.haves (numB (clampN l.off)) 200 ho.hok (by omega) (by decide)
    have h3 := getNum_w l.off 1048576 [] (by omega) (by omega) (by decide)
    rw [List.append_nil] at h3
    rw [restR_3 (by simp only; omega), bodyW_3 hk, h1]
    dsimp only
    rw [h2]
    dsimp only
    rw [h3]
    dsimp only
    rw [Int.toNat_of_nonneg (by omega)]
    congr 1
    generalize hl : bareL l = m at hb
    rw [hb, ← hl]
    unfold bareL
    rw [if_neg (by omega), if_pos hk]
  · have hr := right_part h hk
    have h1 := getId_back l.pack (numB (clampN l.off) ++ (numB (clampN l.total) ++ textB l.data)) ho.len
    have h2 := getNum_w l.off 1048576 (numB (clampN l.total) ++ textB l.data) (by omega) (by omega) (by decide)
    have h3 := getNum_w l.total 1048576 (textB l.data) (by omega) (by omega) (by decide)
    have h4 := getText_w l.data [] 500 (by omega) (by decide)
    rw [List.append_nil] at h4
    rw [restR_4 (by simp only; omega), bodyW_4 hk, h1]
    dsimp only
    rw [h2]
    dsimp only
    rw [h3]
    dsimp only
    rw [h4]
    dsimp only
    rw [Int.toNat_of_nonneg (by omega), Int.toNat_of_nonneg (by omega)]
    congr 1
    generalize hl : bareL l = m at hb
    rw [hb, ← hl]
    unfold bareL
    rw [if_neg (by omega), if_neg (by omega), if_pos hk]
theorem inW_len (l : Lt) (h : rightL l = true) (ho : LtOk l) : (inW l).length ≤ 20000 := by
  have h0 := headW_len l
  unfold inW
  rw [List.length_append]
  rcases right_kind h with hk | hk | hk | hk
  · rw [bodyW_1 (by omega) (by omega) (by omega)]; simp; omega
  · have hr := right_refs h hk
    have h1 := (numB_len (l.refs.length : Int)).2
    have h2 := refB_flat_len (rs := l.refs) (fun r hr' => by
      obtain ⟨i, hi, rfl⟩ := List.getElem_of_mem hr'
      exact ⟨nameS_size (refsAll_get hr.1 i hi).1, (ho.rok _ hr').1⟩) l.refs.length
    rw [List.take_length] at h2
    rw [bodyW_2 hk]
    unfold refsB
    rw [List.length_append]
    omega
  · have hr := right_ids h hk
    have h1 := (numB_len (l.wants.length : Int)).2
    have h2 := (numB_len (l.haves.length : Int)).2
    have h3 := flat_len ho.wok l.wants.length
    have h4 := flat_len ho.hok l.haves.length
    have h5 := (numB_len l.off).2
    rw [List.take_length] at h3 h4
    rw [bodyW_3 hk]
    unfold idsB
    simp only [List.length_append]
    omega
  · have hr := right_part h hk
    have h1 := (numB_len l.off).2
    have h2 := (numB_len l.total).2
    have h3 := textB_len l.data
    have h4 := ho.len
    rw [bodyW_4 hk]
    simp only [List.length_append]
    omega
/-- WHAT IS WRITTEN IS READ BACK -/
theorem read_write (l : Lt) (h : rightL l = true) (ho : LtOk l) : readL (writeB l) = some l := by
  have hlen := inW_len l h ho
  have h4 : (fourB (crc (inW l)).toNat).length = 4 := rfl
  have hl : (writeB l).length = (inW l).length + 4 := by unfold writeB; rw [List.length_append, h4]
  have hd : (writeB l).drop ((writeB l).length - 4) = fourB (crc (inW l)).toNat := by rw [hl, Nat.add_sub_cancel]; unfold writeB; rw [List.drop_left]
  have ht : (writeB l).take ((writeB l).length - 4) = inW l := by rw [hl, Nat.add_sub_cancel]; unfold writeB; rw [List.take_left]
  unfold readL
  rw [if_neg (by omega), hd, ht, getFour_w _ (crc_lt _), if_neg (by simp)]
  have hk : 0 ≤ l.kind ∧ l.kind ≤ 4 := by rcases right_kind h with hk | hk | hk | hk <;> omega
  have h1 : restR (headR (some (inW l))) = (l, some []) := by
    unfold inW
    rw [headR_w l _ hk (rightL_parts h).1]
    exact restR_w l h ho
  rw [h1]
  dsimp only
  rw [h]
  rfl
/-- the bytes of right letters are theirs alone -/
theorem write_inj {a b : Lt} (ha : rightL a = true) (hb : rightL b = true) (hoa : LtOk a) (hob : LtOk b) (h : writeB a = writeB b) : a = b := by
  have h1 := read_write a ha hoa
  rw [h, read_write b hb hob] at h1
  exact (Option.some.inj h1).symm
end Go.Proofs.Ytfjfidhhmidflaa
