/- Lemmas and walks of this claim: PU8, PNum, PIdx, PCls, PBytes, PBytesA. -/
import Derived.Test.YtepnbnpgifpfbaaDoorZKb
import Derived.Test.YtepnbnpgifpfbaaDoorZKc
import Derived.Test.YtepnbnpgifpfbaaDoorZKe
import Derived.Lib.ValidLaws
import Derived.Lib.IndexLaws
import Derived.Lib.SplitLaws
set_option linter.unusedVariables false
set_option linter.unusedSimpArgs false
namespace Go.Proofs.YtepnbnpgifpfbaaDoor.G
open Go.RowKit Go.Proofs.YtepnbnpgifpfbaaDoorW.PrintWords Go.Proofs.YtepnbnpgifpfbaaDoorW.PrintMore
theorem w64 {x : Int} (h : -9223372036854775808 ≤ x) (h' : x < 9223372036854775808) : wrap64 x = x := by unfold wrap64; omega
def bN (s : ByteArray) (i : Nat) : Nat := (s.get! i).toNat
theorem get_out (s : ByteArray) (i : Nat) (h : ¬ i < s.size) : s.get! i = 0 := by
  have : s.get! i = s.data[i]! := rfl
  rw [this, getElem!_neg s.data i (by simpa using h)]
  rfl
theorem get_in (s : ByteArray) (i : Nat) (h : i < s.size) : s.get! i = s[i] := by
  have : s.get! i = s.data[i]! := rfl
  rw [this, getElem!_pos s.data i (by simpa using h)]
  rfl
theorem bt_nat (s : ByteArray) (i : Nat) : bt s (i : Int) = (bN s i : Int) := by
  unfold bt bN
  by_cases h : i < s.size
  · have h' : ((i : Int)).toNat < s.size := by simpa using h
    rw [dif_pos h', get_in s i h]
    simp
  · have h' : ¬ ((i : Int)).toNat < s.size := by simpa using h
    rw [dif_neg h', get_out s i h]
    rfl
section
variable (s : ByteArray) (pos : Nat) (hs : s.size ≤ 140737488351232) (hp : pos < s.size) (x : Nat) (hx : x < 256) (a b c d e f g : Bool)
theorem wp (pos j : Nat) (n : Nat) (hn : n ≤ 140737488351232) (hp : pos < n) (hj : j ≤ 4) : wrap64 ((pos : Int) + (j : Int)) = ((pos + j : Nat) : Int) := w64 (by omega) (by omega)
end
end Go.Proofs.YtepnbnpgifpfbaaDoor.G
namespace Go.Proofs.YtepnbnpgifpfbaaDoor.G
open Go.RowKit Go.Proofs.YtepnbnpgifpfbaaDoorW.PrintWords Go.Proofs.YtepnbnpgifpfbaaDoorW.PrintMore
def dg (b : UInt8) : Bool := decide (48 ≤ b.toNat) && decide (b.toNat ≤ 57)
theorem digits10_eq : digits10 = ⟨#[48, 49, 50, 51, 52, 53, 54, 55, 56, 57]⟩ := by decide
theorem dec10 : ∀ i, i < 10 → Utf8.decode digits10 i = (48 + i, 1) := by
  intro i hi
  rw [digits10_eq]
  match i, hi with
  | 0, _ => rfl
  | 1, _ => rfl
  | 2, _ => rfl
  | 3, _ => rfl
  | 4, _ => rfl
  | 5, _ => rfl
  | 6, _ => rfl
  | 7, _ => rfl
  | 8, _ => rfl
  | 9, _ => rfl
theorem size10 : digits10.size = 10 := by rw [digits10_eq]; rfl
theorem in10 (c : Nat) : inFrom digits10 c digits10.size 0 false = (decide (48 ≤ c) && decide (c ≤ 57)) := by
  rw [size10]
  simp only [inFrom, size10, dec10, Nat.reduceLT, Nat.reduceAdd, if_true, Bool.false_or]
  rw [Bool.eq_iff_iff]
  simp only [Bool.or_eq_true, Bool.and_eq_true, beq_iff_eq, decide_eq_true_eq]
  omega
theorem decodeN_digit (n b0 b1 b2 b3 : Nat) : (48 ≤ (Lib.decodeN n b0 b1 b2 b3).1 ∧ (Lib.decodeN n b0 b1 b2 b3).1 ≤ 57) ↔ (48 ≤ b0 ∧ b0 ≤ 57) := by
  unfold Lib.decodeN
  repeat' split
  all_goals simp only
  all_goals omega
theorem decodeN_one (n b0 b1 b2 b3 : Nat) (h : 48 ≤ b0 ∧ b0 ≤ 57) : (Lib.decodeN n b0 b1 b2 b3).2 = 1 := by
  unfold Lib.decodeN
  rw [if_pos (by omega)]
theorem get_bang (s : ByteArray) (i : Nat) (h : i < s.size) : s.get! i = s.data.toList[i]'(by simpa using h) := by
  have : s.get! i = s.data[i]! := rfl
  rw [this]
  simp [getElem!_pos s.data i h]
theorem inDec (s : ByteArray) (i : Nat) : inFrom digits10 (Utf8.decode s i).1 digits10.size 0 false = dg (s.get! i) := by
  rw [in10, Lib.decode_at]
  unfold dg
  rw [Bool.eq_iff_iff]
  simp only [Bool.and_eq_true, decide_eq_true_eq]
  exact decodeN_digit _ _ _ _ _
theorem dg_one (s : ByteArray) (i : Nat) (h : dg (s.get! i) = true) : (Utf8.decode s i).2 = 1 := by
  rw [Lib.decode_at]
  exact decodeN_one _ _ _ _ _ (by simpa [dg] using h)
theorem cutLeft_all (s : ByteArray) (h : ∀ i, i < s.size → dg (s.get! i) = true) : ∀ f p, cutLeftFrom s digits10 f p = ⟨#[]⟩
  | 0, p => rfl
  | f + 1, p => by
    unfold cutLeftFrom
    by_cases hp : p < s.size
    · rw [if_pos hp, inDec, if_pos (h p hp)]
      exact cutLeft_all s h f _
    · rw [if_neg hp]
theorem cutLeft_some (s : ByteArray) (m : Nat) (hm : m < s.size) (hd : dg (s.get! m) = false) (hb : ∀ i, i < m → dg (s.get! i) = true) : ∀ f p, p ≤ m → s.size ≤ f + p → cutLeftFrom s digits10 f p = s.extract m s.size
  | 0, p, hp, hf => by omega
  | f + 1, p, hp, hf => by
    unfold cutLeftFrom
    rw [if_pos (by omega), inDec]
    by_cases e : p = m
    · subst e
      rw [hd, if_neg (by decide)]
    · have h1 := hb p (by omega)
      rw [if_pos h1, dg_one s p h1]
      exact cutLeft_some s m hm hd hb f (p + 1) (by omega) (by omega)
theorem decodeL_eq (l : List UInt8) : Lib.decodeL l = Lib.decodeN l.length (l.getD 0 0).toNat (l.getD 1 0).toNat (l.getD 2 0).toNat (l.getD 3 0).toNat := by
  unfold Lib.decodeL
  rw [Lib.decode_at]
  have g : ∀ i, (⟨l.toArray⟩ : ByteArray).get! i = l.getD i 0 := by
    intro i
    show l.toArray[i]! = _
    simp [List.getD_eq_getElem?_getD]
    rfl
  simp only [g, Nat.zero_add]
  rfl
theorem decodeLast_digit (l : List UInt8) (hl : l ≠ []) (h : 48 ≤ (Lib.decodeLastL l).1 ∧ (Lib.decodeLastL l).1 ≤ 57) : (Lib.decodeLastL l).2 = 1 ∧ dg (l.getD (l.length - 1) 0) = true := by
  unfold Lib.decodeLastL at h ⊢
  rw [if_neg hl] at h ⊢
  by_cases hc : (l.getD (l.length - 1) 0).toNat < 128
  · rw [if_pos hc] at h ⊢
    exact ⟨rfl, by simpa [dg] using h⟩
  · rw [if_neg hc] at h ⊢
    simp only at h ⊢
    by_cases he : Lib.lastStart l + (Lib.decodeL (l.drop (Lib.lastStart l))).2 = l.length
    · rw [if_pos he] at h
      rw [decodeL_eq] at h he
      have h0 := (decodeN_digit _ _ _ _ _).1 h
      rw [decodeN_one _ _ _ _ _ h0] at he
      have e : (l.drop (Lib.lastStart l)).getD 0 0 = l.getD (l.length - 1) 0 := by
        rw [List.getD_eq_getElem?_getD, List.getD_eq_getElem?_getD, List.getElem?_drop]
        congr 2
        omega
      rw [e] at h0
      omega
    · rw [if_neg he] at h
      simp [Utf8.runeError] at h
theorem cutRight_keeps : ∀ (f : Nat) (s : ByteArray), 0 < s.size → dg (s.get! 0) = false → 0 < (cutRightF digits10 f s).size
  | 0, s, h0, _ => h0
  | f + 1, s, h0, hd => by
    unfold cutRightF
    rw [if_pos h0, in10]
    have hl : s.data.toList ≠ [] := by
      intro e
      have : s.data.toList.length = 0 := by rw [e]; rfl
      have h2 : s.size = s.data.toList.length := by simp
      omega
    by_cases hc : 48 ≤ (Lib.decodeLastL s.data.toList).1 ∧ (Lib.decodeLastL s.data.toList).1 ≤ 57
    · rw [if_pos (by simpa using hc)]
      obtain ⟨h1, h2⟩ := decodeLast_digit _ hl hc
      rw [h1]
      have hlen : s.data.toList.length = s.size := by simp
      have h3 : 1 < s.size := by
        rcases Nat.lt_or_ge 1 s.size with h | h
        · exact h
        · have e1 : s.size = 1 := by omega
          rw [hlen, e1] at h2
          rw [get_bang s 0 h0] at hd
          rw [List.getD_eq_getElem?_getD, List.getElem?_eq_getElem (by omega)] at h2
          simp only [Option.getD_some] at h2
          rw [hd] at h2
          cases h2
      have hs : (s.extract 0 (s.size - 1)).size = s.size - 1 := by simp [ByteArray.size_extract]
      refine cutRight_keeps f _ (by omega) ?_
      rw [get_bang _ 0 (by omega)]
      rw [get_bang s 0 h0] at hd
      have e : (s.extract 0 (s.size - 1)).data.toList = s.data.toList.take (s.size - 1) := by rw [Lib.extract_data]; rfl
      simp only [e, List.getElem_take]
      exact hd
    · rw [if_neg (by simpa using hc)]
      exact h0
theorem strip_all (s : ByteArray) (h : ∀ i, i < s.size → dg (s.get! i) = true) : (stripD s).toList.isEmpty = true := by
  unfold stripD
  rw [cutLeft_all s h]
  show (ByteArray.toList (cutRightF digits10 0 _)).isEmpty = true
  rw [ByteArray.toList_eq]
  rfl
theorem first_bad (s : ByteArray) : ∀ k, (∀ i, i < k → dg (s.get! i) = true) ∨ ∃ m, m < k ∧ dg (s.get! m) = false ∧ ∀ i, i < m → dg (s.get! i) = true
  | 0 => .inl fun _ h => absurd h (Nat.not_lt_zero _)
  | k + 1 => by
    rcases first_bad s k with h | ⟨m, h1, h2, h3⟩
    · cases hk : dg (s.get! k) with
      | true =>
        refine .inl fun i hi => ?_
        · rcases Nat.lt_or_ge i k with h4 | h4
          · exact h i h4
          · have e : i = k := by omega
            rw [e, hk]
      | false => exact .inr ⟨k, by omega, hk, h⟩
    · exact .inr ⟨m, by omega, h2, h3⟩
theorem strip_some (s : ByteArray) (m : Nat) (hm : m < s.size) (hd : dg (s.get! m) = false) (hb : ∀ i, i < m → dg (s.get! i) = true) : (stripD s).toList.isEmpty = false := by
  unfold stripD
  rw [cutLeft_some s m hm hd hb _ 0 (by omega) (by omega)]
  have hs : (s.extract m s.size).size = s.size - m := by simp [ByteArray.size_extract]
  have h0 : dg ((s.extract m s.size).get! 0) = false := by
    rw [get_bang _ 0 (by omega)]
    rw [get_bang s m hm] at hd
    have e : (s.extract m s.size).data.toList = (s.data.toList.drop m).take (s.size - m) := by simp [Lib.extract_data]
    simp only [e, List.getElem_take, List.getElem_drop, Nat.add_zero]
    exact hd
  have := cutRight_keeps (s.extract m s.size).size (s.extract m s.size) (by omega) h0
  rw [ByteArray.toList_eq]
  cases e : (cutRightF digits10 (s.extract m s.size).size (s.extract m s.size)).data.toList with
  | nil =>
    have h2 : (cutRightF digits10 (s.extract m s.size).size (s.extract m s.size)).size = (cutRightF digits10 (s.extract m s.size).size (s.extract m s.size)).data.toList.length := by simp
    rw [e, List.length_nil] at h2
    omega
  | cons a t => rfl
def satF (n : Nat) : List UInt8 → Nat
  | [] => n
  | c :: r => satF (min 256 (10 * n + (c.toNat - 48))) r
theorem sat_256 : ∀ (l : List UInt8), satF 256 l = 256
  | [] => rfl
  | c :: r => by
    unfold satF
    rw [Nat.min_eq_left (by omega)]
    exact sat_256 r
theorem parse_sat : ∀ (l : List UInt8) (acc : Nat), (∀ c ∈ l, dg c = true) → (∃ v, Lib.parseUint10 acc l = .ok v ∧ min 256 v = satF (min 256 acc) l) ∨ (Lib.parseUint10 acc l = .range ∧ satF (min 256 acc) l = 256)
  | [], acc, _ => .inl ⟨acc, rfl, rfl⟩
  | c :: r, acc, h => by
    have hc : 48 ≤ c.toNat ∧ c.toNat ≤ 57 := by simpa [dg] using h c (by simp)
    have hm : min 256 (10 * min 256 acc + (c.toNat - 48)) = min 256 (acc * 10 + (c.toNat - 48)) := by omega
    unfold Lib.parseUint10 satF
    rw [if_pos hc, hm]
    by_cases h1 : 1844674407370955162 ≤ acc
    · rw [if_pos h1]
      refine .inr ⟨rfl, ?_⟩
      rw [Nat.min_eq_left (by omega)]
      exact sat_256 r
    · rw [if_neg h1]
      by_cases h2 : 18446744073709551616 ≤ acc * 10 + (c.toNat - 48)
      · rw [if_pos h2]
        refine .inr ⟨rfl, ?_⟩
        rw [Nat.min_eq_left (by omega)]
        exact sat_256 r
      · rw [if_neg h2]
        exact parse_sat r _ (fun d hd => h d (by simp [hd]))
theorem atoi_sat (l : List UInt8) (hl : l ≠ []) (h : ∀ c ∈ l, dg c = true) : (∃ v : Nat, Lib.atoiAll l = .ok (v : Int) ∧ min 256 v = satF 0 l) ∨ (Lib.atoiAll l = .range ∧ satF 0 l = 256) := by
  match l, hl with
  | c :: r, _ =>
    have hc : 48 ≤ c.toNat ∧ c.toNat ≤ 57 := by simpa [dg] using h c (by simp)
    unfold Lib.atoiAll
    simp only
    rw [if_neg (by omega)]
    unfold Lib.parseMag
    rw [if_neg (by simp)]
    rcases parse_sat (c :: r) 0 h with ⟨v, hv, hs⟩ | ⟨hv, hs⟩
    · rw [hv]
      simp only
      have hn : ¬ c.toNat = 45 := by omega
      by_cases hb : 9223372036854775808 ≤ v
      · rw [if_pos ⟨hn, hb⟩]
        refine .inr ⟨rfl, ?_⟩
        simp only [Nat.min_zero] at hs
        omega
      · rw [if_neg (by omega), if_neg (by omega), if_neg hn]
        exact .inl ⟨v, rfl, by simpa using hs⟩
    · rw [hv]
      exact .inr ⟨rfl, by simpa using hs⟩
abbrev bs (s : ByteArray) : List UInt8 := s.data.toList
theorem bs_len (s : ByteArray) : (bs s).length = s.size := by simp
theorem bs_get (s : ByteArray) (i : Nat) (h : i < s.size) : (bs s)[i]? = some (s.get! i) := by
  rw [List.getElem?_eq_getElem (by rw [bs_len]; exact h), get_bang s i h]
theorem bs_ext (s : ByteArray) (a b : Nat) : bs (s.extract a b) = ((bs s).drop a).take (b - a) := Lib.extract_data s a b
theorem toList_nil (s : ByteArray) : s.toList = [] ↔ bs s = [] := by rw [ByteArray.toList_eq]
def dig (l : List UInt8) : List UInt8 := l.takeWhile dg
def refNum (l : List UInt8) : Option Nat × Nat :=
  (if dig l = [] ∨ (1 < (dig l).length ∧ (dig l).head? = some 48) then none else some (satF 0 (dig l)), (dig l).length)
def numOK (l : List UInt8) : Option Nat := if (dig l).length = l.length then (refNum l).1 else none
theorem dig_full {l : List UInt8} (h : (dig l).length = l.length) : dig l = l := by
  have := List.takeWhile_prefix dg (l := l)
  exact this.eq_of_length h
theorem tw_all : ∀ l : List UInt8, (∀ c ∈ l, dg c = true) → l.takeWhile dg = l
  | [], _ => rfl
  | c :: l, h => by rw [List.takeWhile_cons_of_pos (h c (by simp)), tw_all l (fun d hd => h d (by simp [hd]))]
theorem tw_len : ∀ l : List UInt8, l.takeWhile dg = l → ∀ c ∈ l, dg c = true
  | [], _, c, hc => by cases hc
  | a :: l, h, c, hc => by
    rw [List.takeWhile_cons] at h
    split at h
    · rename_i ha
      rcases List.mem_cons.1 hc with rfl | hc
      · exact ha
      · exact tw_len l (List.cons.inj h).2 c hc
    · cases h
theorem dig_all (l : List UInt8) : (dig l).length = l.length ↔ ∀ c ∈ l, dg c = true := by
  constructor
  · intro h
    exact tw_len l (dig_full h)
  · intro h
    have : dig l = l := tw_all l h
    rw [this]
theorem all_iff (s : ByteArray) : (∀ c ∈ bs s, dg c = true) ↔ ∀ i, i < s.size → dg (s.get! i) = true := by
  constructor
  · intro h i hi
    exact h _ (List.mem_of_getElem? (bs_get s i hi))
  · intro h c hc
    obtain ⟨i, hi⟩ := List.getElem?_of_mem hc
    have hlt : i < s.size := by
      rcases Nat.lt_or_ge i s.size with q | q
      · exact q
      · rw [List.getElem?_eq_none (by rw [bs_len]; exact q)] at hi; cases hi
    rw [bs_get s i hlt] at hi
    cases hi
    exact h i hlt
theorem number_eq (s : ByteArray) (hs : s.size ≤ 281474976710656) : lex_number.f s = some (match numOK (bs s) with | some v => ((v : Int), true) | none => (0, false)) := by
  unfold lex_number.f
  rw [if_pos hs]
  have hlen := bs_len s
  cases h0 : s.toList.isEmpty with
  | true =>
    have e : bs s = [] := by
      have : s.toList = [] := by simpa using h0
      exact (toList_nil s).1 this
    rw [if_pos rfl, e]
    rfl
  | false =>
    have hne : bs s ≠ [] := by
      intro e
      have : s.toList = [] := (toList_nil s).2 e
      rw [this] at h0; cases h0
    have hpos : 0 < s.size := by
      rw [← hlen]; exact List.length_pos_iff.2 hne
    rw [if_neg (by decide)]
    have hhead : (bs s).head? = some (s.get! 0) := by rw [List.head?_eq_getElem?, bs_get s 0 hpos]
    have hb0 : bt s 0 = ((s.get! 0).toNat : Int) := bt_nat s 0
    by_cases hall : ∀ i, i < s.size → dg (s.get! i) = true
    · have hfull : (dig (bs s)).length = (bs s).length := (dig_all _).2 ((all_iff s).2 hall)
      have hd := dig_full hfull
      unfold numOK refNum
      rw [if_pos hfull, hd]
      by_cases hz : 1 < s.size ∧ bt s 0 = 48
      · rw [if_pos hz, if_pos]
        refine .inr ⟨by rw [hlen]; exact hz.1, ?_⟩
        rw [hhead]
        congr 1
        apply UInt8.toNat_inj.1
        have := hz.2
        rw [hb0] at this
        show (s.get! 0).toNat = 48
        omega
      · rw [if_neg hz, strip_all s hall, if_pos rfl, if_neg]
        · rcases atoi_sat (bs s) hne ((all_iff s).2 hall) with ⟨v, hv, hm⟩ | ⟨hv, hm⟩
          · rw [hv]
            simp only
            congr 1
            rw [← hm]
            simp only [Prod.mk.injEq, and_true]
            split <;> omega
          · rw [hv, hm]
            rfl
        · intro q
          rcases q with q | ⟨q1, q2⟩
          · exact hne q
          · apply hz
            refine ⟨by rw [← hlen]; exact q1, ?_⟩
            rw [hhead] at q2
            have e := Option.some.inj q2
            rw [hb0, e]
            rfl
    · have hnf : ¬ (dig (bs s)).length = (bs s).length := fun q => hall ((all_iff s).1 ((dig_all _).1 q))
      unfold numOK
      rw [if_neg hnf]
      by_cases hz : 1 < s.size ∧ bt s 0 = 48
      · rw [if_pos hz]
      · rw [if_neg hz]
        rcases first_bad s s.size with h | ⟨m, h1, h2, h3⟩
        · exact absurd h hall
        · rw [strip_some s m h1 h2 h3, if_neg (by decide)]
end Go.Proofs.YtepnbnpgifpfbaaDoor.G
namespace Go.Proofs.YtepnbnpgifpfbaaDoor.G
open Go.RowKit Go.Proofs.YtepnbnpgifpfbaaDoorW.PrintWords Go.Proofs.YtepnbnpgifpfbaaDoorW.PrintMore
def ahead (c : UInt8) (l : List UInt8) : List UInt8 := l.takeWhile (· != c)
def from1 (c : UInt8) (l : List UInt8) : List UInt8 := l.dropWhile (· != c)
theorem ahead_from (c : UInt8) (l : List UInt8) : ahead c l ++ from1 c l = l := List.takeWhile_append_dropWhile
theorem from1_cases (c : UInt8) : ∀ l : List UInt8, (c ∉ l ∧ from1 c l = [] ∧ ahead c l = l) ∨ (c ∈ l ∧ ∃ t, from1 c l = c :: t ∧ l = ahead c l ++ c :: t)
  | [] => .inl ⟨by simp, rfl, rfl⟩
  | b :: l => by
    by_cases h : b = c
    · subst h
      refine .inr ⟨by simp, l, ?_, ?_⟩
      · unfold from1; rw [List.dropWhile_cons]; simp
      · unfold ahead; rw [List.takeWhile_cons]; simp
    · have hb : (b != c) = true := by simpa using h
      have e1 : ahead c (b :: l) = b :: ahead c l := by unfold ahead; rw [List.takeWhile_cons_of_pos (by simpa using h)]
      have e2 : from1 c (b :: l) = from1 c l := by unfold from1; rw [List.dropWhile_cons, if_pos hb]
      rcases from1_cases c l with ⟨h1, h2, h3⟩ | ⟨h1, t, h2, h3⟩
      · exact .inl ⟨by simp [h1, Ne.symm h], by rw [e2, h2], by rw [e1, h3]⟩
      · exact .inr ⟨by simp [h1], t, by rw [e2, h2], by rw [e1, List.cons_append, ← h3]⟩
theorem ahead_not (c : UInt8) : ∀ l : List UInt8, c ∉ ahead c l
  | [] => by simp [ahead]
  | b :: l => by
    unfold ahead
    rw [List.takeWhile_cons]
    split
    · rename_i h
      have := ahead_not c l
      unfold ahead at this
      simp only [List.mem_cons, not_or]
      exact ⟨fun e => by subst e; simp at h, this⟩
    · simp
theorem indexByte_eq (c : UInt8) : ∀ l : List UInt8, Lib.indexByte l c = if c ∈ l then ((ahead c l).length : Int) else -1
  | [] => by simp [Lib.indexByte]
  | b :: l => by
    unfold Lib.indexByte
    by_cases h : b = c
    · subst h
      have e : ahead b (b :: l) = [] := by unfold ahead; rw [List.takeWhile_cons]; simp
      rw [e]; simp
    · have e1 : ahead c (b :: l) = b :: ahead c l := by unfold ahead; rw [List.takeWhile_cons_of_pos (by simpa using h)]
      rw [if_neg (by simpa using h), indexByte_eq c l, e1]
      by_cases hm : c ∈ l
      · have hm2 : c ∈ b :: l := by simp [hm]
        have hne : (((ahead c l).length : Int) == -1) = false := by rw [beq_eq_false_iff_ne]; omega
        rw [if_pos hm, if_pos hm2, hne]
        simp
      · have hm2 : c ∉ b :: l := by simp [hm, Ne.symm h]
        rw [if_neg hm, if_neg hm2]
        rfl
theorem index_one (c : UInt8) : ∀ l : List UInt8, Lib.index l [c] = if c ∈ l then ((ahead c l).length : Int) else -1
  | [] => by simp [Lib.index]
  | b :: l => by
    unfold Lib.index
    by_cases h : b = c
    · subst h
      have e : ahead b (b :: l) = [] := by unfold ahead; rw [List.takeWhile_cons]; simp
      rw [e]; simp [List.isPrefixOf]
    · have e1 : ahead c (b :: l) = b :: ahead c l := by unfold ahead; rw [List.takeWhile_cons_of_pos (by simpa using h)]
      have hp : List.isPrefixOf [c] (b :: l) = false := by simp [List.isPrefixOf, Ne.symm h]
      rw [hp, index_one c l, e1]
      by_cases hm : c ∈ l
      · have hm2 : c ∈ b :: l := by simp [hm]
        have hne : (((ahead c l).length : Int) == -1) = false := by rw [beq_eq_false_iff_ne]; omega
        rw [if_pos hm, if_pos hm2, hne]
        simp
      · have hm2 : c ∉ b :: l := by simp [hm, Ne.symm h]
        rw [if_neg hm, if_neg hm2]
        rfl
theorem take_ahead (c : UInt8) (l : List UInt8) : l.take (ahead c l).length = ahead c l := by
  have h : (ahead c l ++ from1 c l).take (ahead c l).length = ahead c l := List.take_left' rfl
  rwa [ahead_from] at h
theorem drop_ahead (c : UInt8) (l : List UInt8) : l.drop ((ahead c l).length + 1) = (from1 c l).drop 1 := by
  have h : (ahead c l ++ from1 c l).drop ((ahead c l).length + 1) = (from1 c l).drop 1 := by rw [← List.drop_drop, List.drop_left' rfl]
  rwa [ahead_from] at h
theorem cut_one (c : UInt8) (l : List UInt8) : Lib.cut l [c] = (ahead c l, (from1 c l).drop 1, decide (c ∈ l)) := by
  unfold Lib.cut
  rw [index_one]
  by_cases hm : c ∈ l
  · rw [if_pos hm, if_pos (by omega), Int.toNat_natCast, take_ahead]
    have : [c].length = 1 := rfl
    rw [this, drop_ahead, decide_eq_true hm]
  · rw [if_neg hm, if_neg (by decide), decide_eq_false hm]
    rcases from1_cases c l with ⟨h1, h2, h3⟩ | ⟨h1, _⟩
    · rw [h2, h3]; rfl
    · exact absurd h1 hm
def pieces (c : UInt8) (l : List UInt8) : List (List UInt8) := Lib.splitK [c] 0 (l.count c) l
theorem pieces_eq (c : UInt8) (l : List UInt8) : pieces c l = ahead c l :: (match from1 c l with | [] => [] | _ :: t => pieces c t) := by
  unfold pieces
  rcases from1_cases c l with ⟨h1, h2, h3⟩ | ⟨h1, t, h2, h3⟩
  · have : l.count c = 0 := List.count_eq_zero.2 h1
    rw [this, h2, h3]
    rfl
  · have hc : l.count c = t.count c + 1 := by
      conv => lhs; rw [h3]
      rw [List.count_append, List.count_cons_self, List.count_eq_zero.2 (ahead_not c l)]
      omega
    have hi := index_one c l
    rw [if_pos h1] at hi
    rw [hc, h2]
    show Lib.splitK [c] 0 (t.count c + 1) l = _
    unfold Lib.splitK
    rw [hi]
    have hne : (((ahead c l).length : Int) == -1) = false := by rw [beq_eq_false_iff_ne]; omega
    rw [hne]
    have e1 : [c].length = 1 := rfl
    have e2 : (from1 c l).drop 1 = t := by rw [h2]; rfl
    simp only [Bool.false_eq_true, if_false, Int.toNat_natCast, Nat.add_zero, e1, take_ahead, drop_ahead, e2]
    congr 1
    cases t.count c <;> rfl
def bounds (lo hi : Nat) : Int × Int × Int := if 255 < hi ∨ hi < lo then (0, 0, 5) else ((lo : Int), (hi : Int), 0)
def repSpec (l : List UInt8) : Int × Int × Int :=
  match numOK (ahead 44 l), numOK ((from1 44 l).drop 1) with
  | some lo, some hi => bounds lo hi
  | _, _ => (0, 0, 4)
def repTok (r : Int × Int × Int) : Int × Int × Int × Int × Int × Int × ByteArray × Int × Int × Int :=
  if r.2.2 = 0 then (7, 0, 0, 0, 0, 0, ⟨#[]⟩, r.1, r.2.1, 0) else (0, 0, 0, 0, 0, 0, ⟨#[]⟩, 0, 0, r.2.2)
theorem repeat_eq (t : ByteArray) (ht : t.size ≤ 4000) : Ev (fun k => lex_repeat.f k t) (repTok (repSpec (bs t))) := by
  have hlen := bs_len t
  have hc : strings_Cut.f t (⟨#[44]⟩ : ByteArray) = some (⟨(ahead 44 (bs t)).toArray⟩, ⟨((from1 44 (bs t)).drop 1).toArray⟩, decide (44 ∈ bs t)) := by
    unfold strings_Cut.f
    rw [if_pos (by omega)]
    have e : (⟨#[44]⟩ : ByteArray).data.toList = [44] := rfl
    rw [e, cut_one]
  have ha : (ahead 44 (bs t)).length ≤ t.size := by rw [← hlen]; exact (List.takeWhile_prefix _).length_le
  have hb : ((from1 44 (bs t)).drop 1).length ≤ t.size := by
    rw [← hlen, List.length_drop]
    have := (List.dropWhile_suffix (· != 44) (l := bs t)).length_le
    unfold from1
    omega
  have n1 : lex_number.f ⟨(ahead 44 (bs t)).toArray⟩ = _ := number_eq _ (by show (ahead 44 (bs t)).toArray.size ≤ _; simp; omega)
  have n2 : lex_number.f ⟨((from1 44 (bs t)).drop 1).toArray⟩ = _ := number_eq _ (by show ((from1 44 (bs t)).drop 1).toArray.size ≤ _; simp only [List.size_toArray]; omega)
  have e1 : bs ⟨(ahead 44 (bs t)).toArray⟩ = ahead 44 (bs t) := rfl
  have e2 : bs ⟨((from1 44 (bs t)).drop 1).toArray⟩ = (from1 44 (bs t)).drop 1 := rfl
  rw [e1] at n1
  rw [e2] at n2
  have main : ∀ k, lex_repeat.f (k + 1) t = some (repTok (repSpec (bs t))) := by
    intro k
    unfold lex_repeat.f
    rw [hc, Option.bind_some, n1, Option.bind_some, n2, Option.bind_some]
    unfold repSpec
    cases numOK (ahead 44 (bs t)) with
    | none => simp only [Bool.false_eq_true, if_false]; rw [lex_repeat.j0, if_pos rfl]; rfl
    | some lo =>
      simp only [if_true]
      cases numOK ((from1 44 (bs t)).drop 1) with
      | none => rw [lex_repeat.j0]; rfl
      | some hi =>
        simp only
        rw [lex_repeat.j0]
        simp only [Bool.not_true, Bool.false_eq_true, if_false]
        unfold bounds
        by_cases q1 : 255 < hi
        · rw [if_pos (by omega), if_pos (.inl q1)]; rfl
        · rw [if_neg (by omega)]
          by_cases q2 : hi < lo
          · rw [if_pos (by omega), if_pos (.inr q2)]; rfl
          · rw [if_neg (by omega), if_neg (by omega)]; rfl
  exact Ev.step main ⟨0, fun _ _ => rfl⟩
end Go.Proofs.YtepnbnpgifpfbaaDoor.G
namespace Go.Proofs.YtepnbnpgifpfbaaDoor.G
open Go.RowKit Go.Proofs.YtepnbnpgifpfbaaDoorW.PrintWords Go.Proofs.YtepnbnpgifpfbaaDoorW.PrintMore
def wordN (p : Nat → Bool) : Nat → Nat
  | 0 => 0
  | k + 1 => 2 ^ k * (p k).toNat + wordN p k
theorem wordN_lt (p : Nat → Bool) : ∀ k, wordN p k < 2 ^ k
  | 0 => by simp [wordN]
  | k + 1 => by
    have := wordN_lt p k
    unfold wordN
    cases p k <;> simp [Nat.pow_succ] <;> omega
theorem wordN_bit (p : Nat → Bool) : ∀ k i, (wordN p k).testBit i = (decide (i < k) && p i)
  | 0, i => by simp [wordN]
  | k + 1, i => by
    unfold wordN
    rw [Nat.testBit_two_pow_mul_add _ (wordN_lt p k), wordN_bit p k i]
    by_cases h : i < k
    · simp [h, Nat.lt_succ_of_lt h]
    · by_cases h2 : i = k
      · subst h2; cases p i <;> simp
      · have h3 : ¬ i < k + 1 := by omega
        obtain ⟨d, hd⟩ : ∃ d, i - k = d + 1 := ⟨i - k - 1, by omega⟩
        rw [if_neg h, hd]
        simp [h3]
        cases p k <;> simp [Nat.testBit_succ]
theorem wordN_ext (p : Nat → Bool) (k n : Nat) (h : ∀ i, n.testBit i = (decide (i < k) && p i)) : n = wordN p k :=
  Nat.eq_of_testBit_eq fun i => by rw [h, wordN_bit]
def word (p : Nat → Bool) : Int := (wordN p 64 : Nat)
theorem word_ext (p : Nat → Bool) (n : Nat) (h : ∀ i, n.testBit i = (decide (i < 64) && p i)) : (n : Int) = word p :=
  congrArg (fun n : Nat => (n : Int)) (wordN_ext p 64 n h)
theorem wrap_u64 (n : Int) : IntKind.u64.wrap n = n % 18446744073709551616 := by simp [IntKind.wrap, IntKind.bits, IntKind.signed]
theorem wraps_u64 (n : Int) (h₀ : 0 ≤ n) (h₁ : n < 2 ^ 64) : IntKind.u64.wrap n = n := by rw [wrap_u64]; omega
theorem word_or (p q : Nat → Bool) : bits .or .u64 (word p) (word q) = word fun i => p i || q i := by
  rw [word, word, (bits_nat .u64 64 (by decide) wraps_u64 _ _ (wordN_lt p 64) (wordN_lt q 64)).2]
  refine word_ext _ _ fun i => ?_
  rw [Nat.testBit_or, wordN_bit, wordN_bit]
  cases decide (i < 64) <;> simp
theorem bits_xor (a b : Nat) (ha : a < 2 ^ 64) (hb : b < 2 ^ 64) : bits .xor .u64 (a : Int) (b : Int) = ((a ^^^ b : Nat) : Int) := by
  have ha' : a % 2 ^ IntKind.u64.bits = a := Nat.mod_eq_of_lt ha
  have hb' : b % 2 ^ IntKind.u64.bits = b := Nat.mod_eq_of_lt hb
  have := Nat.xor_lt_two_pow ha hb
  simp only [bits, BitVec.ofInt_natCast, BitVec.toNat_xor, BitVec.toNat_ofNat, ha', hb']
  exact wraps_u64 _ (Int.natCast_nonneg _) (by exact_mod_cast this)
theorem wordN_true : wordN (fun _ => true) 64 = 18446744073709551615 := by decide
theorem word_not (p : Nat → Bool) : bits .xor .u64 IntKind.u64.max (word p) = word fun i => !p i := by
  have hm : IntKind.u64.max = ((wordN (fun _ => true) 64 : Nat) : Int) := by rw [wordN_true]; rfl
  rw [hm, word, bits_xor _ _ (wordN_lt _ 64) (wordN_lt p 64)]
  refine word_ext _ _ fun i => ?_
  rw [Nat.testBit_xor, wordN_bit, wordN_bit]
  cases decide (i < 64) <;> simp
theorem word_none : word (fun _ => false) = 0 := by decide
theorem word_congr {p q : Nat → Bool} (h : ∀ i, i < 64 → p i = q i) : word p = word q := by
  refine word_ext q _ fun i => ?_
  rw [wordN_bit]
  by_cases hi : i < 64
  · rw [h i hi]
  · simp [hi]
theorem orw_word (p : Nat → Bool) (c : Nat) : bits .or .u64 (word p) (IntKind.u64.wrap (2 ^ (c % 64))) = word fun i => p i || i == c % 64 := by
  have hc : c % 64 < 64 := Nat.mod_lt _ (by decide)
  have hlt : 2 ^ (c % 64) < 2 ^ 64 := Nat.pow_lt_pow_right (by decide) hc
  have h : IntKind.u64.wrap (2 ^ (c % 64)) = word fun i => i == c % 64 := by
    rw [wraps_u64 _ (Int.pow_nonneg (by decide)) (by exact_mod_cast hlt)]
    rw [← word_ext (fun i => i == c % 64) (2 ^ (c % 64)) fun i => ?_]
    · simp
    · rw [Nat.testBit_two_pow]
      by_cases hi : i < 64
      · simp only [hi, decide_true, Bool.true_and]
        exact decide_eq_decide.2 eq_comm
      · have : c % 64 ≠ i := by omega
        have h2 : i ≠ c % 64 := by omega
        simp [this, h2]
  rw [h, word_or]
def cls (p : Nat → Bool) : Int × Int × Int × Int := (word fun i => p i, word fun i => p (64 + i), word fun i => p (128 + i), word fun i => p (192 + i))
theorem cls_congr {p q : Nat → Bool} (h : ∀ i, i < 256 → p i = q i) : cls p = cls q := by
  unfold cls
  rw [word_congr (q := fun i => q i) fun i hi => h i (by omega), word_congr (p := fun i => p (64 + i)) (q := fun i => q (64 + i)) fun i hi => h (64 + i) (by omega),
    word_congr (p := fun i => p (128 + i)) (q := fun i => q (128 + i)) fun i hi => h (128 + i) (by omega), word_congr (p := fun i => p (192 + i)) (q := fun i => q (192 + i)) fun i hi => h (192 + i) (by omega)]
theorem cls_none : cls (fun _ => false) = (0, 0, 0, 0) := by
  unfold cls
  rw [word_none]
theorem join_cls (p q : Nat → Bool) : class_Join.f (cls p).1 (cls p).2.1 (cls p).2.2.1 (cls p).2.2.2 (cls q).1 (cls q).2.1 (cls q).2.2.1 (cls q).2.2.2 = some (cls fun i => p i || q i) := by
  simp only [class_Join.f, cls, word_or]
theorem not_cls (p : Nat → Bool) : class_Not.f (cls p).1 (cls p).2.1 (cls p).2.2.1 (cls p).2.2.2 = some (cls fun i => !p i) := by
  simp only [class_Not.f, cls, word_not]
theorem orw_w (p : Nat → Bool) (c : Nat) : orw (word p) c = word fun i => p i || i == c % 64 := orw_word p c
theorem add_cls (p : Nat → Bool) (c : Nat) : addw (cls p) c = cls fun i => p i || i == c := by
  have key : ∀ d b, b = 64 * d → (if c / 64 = d then orw (word fun i => p (b + i)) c else word fun i => p (b + i)) = word fun i => p (b + i) || b + i == c := by
    intro d b hb
    by_cases h : c / 64 = d
    · rw [if_pos h, orw_w]
      refine word_congr fun i hi => ?_
      congr 1
      rw [Bool.eq_iff_iff, beq_iff_eq, beq_iff_eq]
      omega
    · rw [if_neg h]
      refine word_congr fun i hi => ?_
      have : (b + i == c) = false := by rw [beq_eq_false_iff_ne]; omega
      rw [this, Bool.or_false]
  have k0 := key 0 0 rfl
  simp only [Nat.zero_add] at k0
  simp only [addw, cls]
  rw [k0, key 1 64 rfl, key 2 128 rfl, key 3 192 rfl]
theorem add_f (p : Nat → Bool) (c : Int) (h : 0 ≤ c ∧ c ≤ 255) : class_Add.f (cls p).1 (cls p).2.1 (cls p).2.2.1 (cls p).2.2.2 [c] = some (cls fun i => p i || i == c.toNat) := by
  simp only [class_Add.f]
  rw [if_pos h]
  exact congrArg some (add_cls p c.toNat)
theorem wi {x : Int} (h : -9223372036854775808 ≤ x) (h' : x < 9223372036854775808) : wrap64 x = x := by unfold wrap64; omega
def rowP (a b : Nat) (i : Nat) : Bool := decide (a ≤ i) && decide (i ≤ b)
theorem of_loop (a b : Nat) : ∀ (d i : Nat), i + d = 256 → Ev (fun k => class_Of.l0 k (a : Int) (b : Int) (i : Int) (cls fun j => decide (j < i) && rowP a b j).1 (cls fun j => decide (j < i) && rowP a b j).2.1 (cls fun j => decide (j < i) && rowP a b j).2.2.1 (cls fun j => decide (j < i) && rowP a b j).2.2.2) (cls (rowP a b))
  | 0, i, h => by
    refine Ev.step (f := fun _ => some (cls (rowP a b))) (fun k => ?_) ⟨0, fun _ _ => rfl⟩
    rw [class_Of.l0, if_neg (by omega)]
    have e : cls (fun j => decide (j < i) && rowP a b j) = cls (rowP a b) := cls_congr fun j hj => by rw [decide_eq_true (by omega : j < i), Bool.true_and]
    rw [e]
  | d + 1, i, h => by
    have ih := of_loop a b d (i + 1) (by omega)
    have hm : (i : Int) % 256 = i := by omega
    have hw : wrap64 ((i : Int) + 1) = ((i + 1 : Nat) : Int) := wi (by omega) (by omega)
    refine Ev.step (fun k => ?_) ih
    rw [class_Of.l0, if_pos (by omega), hm, hw]
    by_cases h1 : a ≤ i ∧ i ≤ b
    · rw [if_pos (by omega), if_pos (by omega), add_f _ _ (by omega), Option.bind_some]
      have e : cls (fun j => (decide (j < i) && rowP a b j) || j == ((i : Int)).toNat) = cls (fun j => decide (j < i + 1) && rowP a b j) := by
        refine cls_congr fun j hj => ?_
        simp only [rowP]
        rw [Bool.eq_iff_iff]
        simp only [Bool.or_eq_true, Bool.and_eq_true, decide_eq_true_eq, beq_iff_eq]
        omega
      rw [e]
    · have e : cls (fun j => decide (j < i) && rowP a b j) = cls (fun j => decide (j < i + 1) && rowP a b j) := by
        refine cls_congr fun j hj => ?_
        simp only [rowP]
        rw [Bool.eq_iff_iff]
        simp only [Bool.and_eq_true, decide_eq_true_eq]
        omega
      rw [e]
      by_cases h2 : a ≤ i
      · rw [if_pos (by omega), if_neg (by omega)]
      · rw [if_neg (by omega)]
theorem of_eq (a b : Nat) : Ev (fun k => class_Of.f k (a : Int) (b : Int)) (cls (rowP a b)) := by
  have h := of_loop a b 256 0 rfl
  have e : cls (fun j => decide (j < 0) && rowP a b j) = (0, 0, 0, 0) := by
    rw [← cls_none]
    exact cls_congr fun j _ => by simp
  rw [e] at h
  exact h
end Go.Proofs.YtepnbnpgifpfbaaDoor.G
namespace Go.Proofs.YtepnbnpgifpfbaaDoor.G
open Go.RowKit Go.Proofs.YtepnbnpgifpfbaaDoorW.PrintWords Go.Proofs.YtepnbnpgifpfbaaDoorW.PrintMore
def hexV (b : UInt8) : Option Nat := if 48 ≤ b.toNat ∧ b.toNat ≤ 57 then some (b.toNat - 48) else if 97 ≤ b.toNat ∧ b.toNat ≤ 102 then some (b.toNat - 87) else none
theorem hexV_lt {b : UInt8} {v : Nat} (h : hexV b = some v) : v < 16 := by
  unfold hexV at h
  split at h
  · cases h; omega
  · split at h
    · cases h; omega
    · cases h
def pairL : List UInt8 → Option Nat
  | a :: b :: _ => (match hexV a, hexV b with | some x, some y => some (16 * x + y) | _, _ => none)
  | _ => none
def hexS : List UInt8 → Option Nat
  | [a, b] => pairL [a, b]
  | _ => none
def rowS (l : List UInt8) : Option (Nat × Nat) :=
  if 45 ∈ l then (match hexS (ahead 45 l), hexS ((from1 45 l).drop 1) with | some a, some b => if a ≤ b then some (a, b) else none | _, _ => none)
  else (match hexS l with | some a => some (a, a) | none => none)
def addR (p : Nat → Bool) (a b : Nat) : Nat → Bool := fun i => p i || rowP a b i
def foldP : List (List UInt8) → (Nat → Bool) → Option (Nat → Bool)
  | [], p => some p
  | l :: ls, p => match rowS l with | none => none | some (a, b) => foldP ls (addR p a b)
theorem ahead_cons_ne {c b : UInt8} (l : List UInt8) (h : b ≠ c) : ahead c (b :: l) = b :: ahead c l := by unfold ahead; rw [List.takeWhile_cons_of_pos (by simpa using h)]
theorem ahead_cons_eq (c : UInt8) (l : List UInt8) : ahead c (c :: l) = [] := by unfold ahead; rw [List.takeWhile_cons]; simp
end Go.Proofs.YtepnbnpgifpfbaaDoor.G
namespace Go.Proofs.YtepnbnpgifpfbaaDoor.G
open Go.RowKit Go.Proofs.YtepnbnpgifpfbaaDoorW.PrintWords Go.Proofs.YtepnbnpgifpfbaaDoorW.PrintMore
def dgI (b : UInt8) : Int := match hexV b with | some v => (v : Int) | none => -1
theorem idx_all : ∀ n : Nat, n < 256 → Lib.indexByte [48, 49, 50, 51, 52, 53, 54, 55, 56, 57, 97, 98, 99, 100, 101, 102] (UInt8.ofNat n) = dgI (UInt8.ofNat n) := by decide +kernel
theorem dgI_range (b : UInt8) : -1 ≤ dgI b ∧ dgI b ≤ 15 := by
  unfold dgI
  cases h : hexV b with
  | none => decide
  | some v => have := hexV_lt h; simp only; omega
theorem dgI_some (b : UInt8) : (hexV b).isSome = decide (0 ≤ dgI b) := by
  unfold dgI
  cases hexV b with
  | none => rfl
  | some v => simp
theorem idx_hex (b : UInt8) : strings_IndexByte.f (⟨#[48, 49, 50, 51, 52, 53, 54, 55, 56, 57, 97, 98, 99, 100, 101, 102]⟩ : ByteArray) (b.toNat : Int) = some (dgI b) := by
  unfold strings_IndexByte.f
  have h := idx_all b.toNat (UInt8.toNat_lt b)
  rw [UInt8.ofNat_toNat] at h
  have e : ((b.toNat : Int)).toNat.toUInt8 = b := by simp
  rw [e]
  exact congrArg some h
theorem two_bytes (s : ByteArray) (h : s.size = 2) : bs s = [s.get! 0, s.get! 1] := by
  apply List.ext_getElem?
  intro i
  match i with
  | 0 => rw [bs_get s 0 (by omega)]; rfl
  | 1 => rw [bs_get s 1 (by omega)]; rfl
  | i + 2 => rw [List.getElem?_eq_none (by rw [bs_len]; omega)]; rfl
theorem hexS_none (l : List UInt8) (h : l.length ≠ 2) : hexS l = none := by
  match l, h with
  | [], _ => rfl
  | [_], _ => rfl
  | [_, _], h => exact absurd rfl h
  | _ :: _ :: _ :: _, _ => rfl
theorem hex_eq (s : ByteArray) : ∃ v : Nat, v < 256 ∧ lex_hex.f s = some ((v : Int), (hexS (bs s)).isSome) ∧ ∀ x, hexS (bs s) = some x → v = x := by
  unfold lex_hex.f
  by_cases h2 : s.size = 2
  · have b0 : bt s 0 = ((s.get! 0).toNat : Int) := bt_nat s 0
    have b1 : bt s 1 = ((s.get! 1).toNat : Int) := bt_nat s 1
    rw [if_pos (by omega), if_pos (by omega), b0, b1, idx_hex, Option.bind_some, if_pos (by omega), idx_hex, Option.bind_some, two_bytes s h2]
    generalize s.get! 0 = x
    generalize s.get! 1 = y
    have hx := dgI_range x
    have hy := dgI_range y
    have hval : wrap64 (wrap64 (dgI x * 16) + dgI y) = dgI x * 16 + dgI y := by
      rw [w64 (x := dgI x * 16) (by omega) (by omega), w64 (by omega) (by omega)]
    rw [hval]
    clear hval
    refine ⟨((dgI x * 16 + dgI y) % 256).toNat, by omega, ?_, ?_⟩
    · have e : ((((dgI x * 16 + dgI y) % 256).toNat : Nat) : Int) = (dgI x * 16 + dgI y) % 256 := Int.toNat_of_nonneg (by omega)
      rw [e]
      have hs : (hexS [x, y]).isSome = (decide (0 ≤ dgI x) && decide (0 ≤ dgI y)) := by
        rw [← dgI_some, ← dgI_some]
        show (pairL [x, y]).isSome = _
        simp only [pairL]
        cases hexV x <;> cases hexV y <;> rfl
      rw [hs]
      by_cases c : 0 ≤ dgI x
      · rw [if_pos c, decide_eq_true c, Bool.true_and]
      · rw [if_neg c, decide_eq_false c, Bool.false_and]
    · intro v hv
      have hv' : pairL [x, y] = some v := hv
      simp only [pairL] at hv'
      unfold dgI
      cases h1 : hexV x with
      | none => rw [h1] at hv'; cases hv'
      | some a =>
        cases h3 : hexV y with
        | none => rw [h1, h3] at hv'; cases hv'
        | some b =>
          rw [h1, h3] at hv'
          have := hexV_lt h1
          have := hexV_lt h3
          cases hv'
          simp only
          omega
  · rw [if_neg (by omega)]
    have e : hexS (bs s) = none := hexS_none _ (by rw [bs_len]; exact h2)
    rw [e]
    exact ⟨0, by decide, rfl, fun x h => by cases h⟩
theorem cut_f (c : UInt8) (s : ByteArray) (hs : s.size ≤ 4000) : strings_Cut.f s (⟨#[c]⟩ : ByteArray) = some (⟨(ahead c (bs s)).toArray⟩, ⟨((from1 c (bs s)).drop 1).toArray⟩, decide (c ∈ bs s)) := by
  unfold strings_Cut.f
  rw [if_pos (by omega)]
  have e : (⟨#[c]⟩ : ByteArray).data.toList = [c] := rfl
  rw [e, cut_one]
theorem lexrow_eq (s : ByteArray) (hs : s.size ≤ 4000) : ∃ p : Nat → Bool, Ev (fun k => lex_row.f k s) ((cls p).1, (cls p).2.1, (cls p).2.2.1, (cls p).2.2.2, (rowS (bs s)).isSome) ∧ ∀ a b, rowS (bs s) = some (a, b) → p = rowP a b := by
  unfold lex_row.f
  simp only [cut_f 45 s hs, Option.bind_some]
  obtain ⟨v, hv, hx, hvx⟩ := hex_eq ⟨(ahead 45 (bs s)).toArray⟩
  have e1 : bs ⟨(ahead 45 (bs s)).toArray⟩ = ahead 45 (bs s) := rfl
  rw [e1] at hx hvx
  simp only [hx, Option.bind_some]
  by_cases hm : 45 ∈ bs s
  · simp only [hm, decide_true, if_true]
    obtain ⟨u, hu, hy, huy⟩ := hex_eq ⟨((from1 45 (bs s)).drop 1).toArray⟩
    have e2 : bs ⟨((from1 45 (bs s)).drop 1).toArray⟩ = (from1 45 (bs s)).drop 1 := rfl
    rw [e2] at hy huy
    simp only [hy, Option.bind_some]
    refine ⟨rowP v u, Ev.bind (of_eq v u) ?_, ?_⟩
    · unfold rowS
      rw [if_pos hm]
      cases h1 : hexS (ahead 45 (bs s)) with
      | none => simp only [Option.isSome_none, Bool.false_eq_true, if_false]; exact Ev.now _
      | some a =>
        cases h2 : hexS ((from1 45 (bs s)).drop 1) with
        | none => simp only [Option.isSome_none, Option.isSome_some, Bool.false_eq_true, if_false, if_true]; exact Ev.now _
        | some b =>
          have ea := hvx a h1
          have eb := huy b h2
          subst ea eb
          simp only [Option.isSome_some, if_true]
          by_cases hab : v ≤ u
          · rw [if_pos hab]
            have : decide ((v : Int) ≤ (u : Int)) = true := decide_eq_true (by omega)
            rw [this]
            exact Ev.now _
          · rw [if_neg hab]
            have : decide ((v : Int) ≤ (u : Int)) = false := decide_eq_false (by omega)
            rw [this]
            exact Ev.now _
    · intro a b h
      unfold rowS at h
      rw [if_pos hm] at h
      split at h
      · rename_i x y h1 h2
        split at h
        · cases h
          rw [hvx _ h1, huy _ h2]
        · cases h
      · cases h
  · simp only [hm, decide_false, Bool.false_eq_true, if_false]
    have ha : ahead 45 (bs s) = bs s := by
      rcases from1_cases 45 (bs s) with ⟨_, _, h3⟩ | ⟨h1, _⟩
      · exact h3
      · exact absurd h1 hm
    refine ⟨rowP v v, Ev.bind (of_eq v v) ?_, ?_⟩
    · unfold rowS
      rw [if_neg hm, ha]
      cases hexS (bs s) with
      | none => exact Ev.now _
      | some a => exact Ev.now _
    · intro a b h
      unfold rowS at h
      rw [if_neg hm] at h
      rw [ha] at hvx
      split at h
      · rename_i x h1
        cases h
        rw [hvx _ h1]
      · cases h
def Qn (nt : Bool) (q : Nat → Bool) : Nat → Bool := if nt = true then fun i => !q i else q
def bytesTok (nt : Bool) (o : Option (Nat → Bool)) : Int × Int × Int × Int × Int × Int × ByteArray × Int × Int × Int :=
  match o with
  | none => (0, 0, 0, 0, 0, 0, ⟨#[]⟩, 0, 0, 2)
  | some q => (1, 0, (cls (Qn nt q)).1, (cls (Qn nt q)).2.1, (cls (Qn nt q)).2.2.1, (cls (Qn nt q)).2.2.2, ⟨#[]⟩, 0, 0, 0)
theorem bytes_loop (x4 : ByteArray) (hx : x4.toList ≠ []) (nt : Bool) (L : List ByteArray) (hL : L.length ≤ 9000) (hs : ∀ x ∈ L, x.size ≤ 4000) : ∀ (d i : Nat) (p : Nat → Bool), i + d = L.length →
    Ev (fun k => lex_bytes.l0 k x4 nt L (L.length : Int) (i : Int) (cls p).1 (cls p).2.1 (cls p).2.2.1 (cls p).2.2.2) (bytesTok nt (foldP ((L.drop i).map bs) p))
  | 0, i, p, h => by
    have e : L.drop i = [] := List.drop_eq_nil_of_le (by omega)
    rw [e]
    refine Ev.step (f := fun _ => some (bytesTok nt (some p))) (fun k => ?_) ⟨0, fun _ _ => rfl⟩
    rw [lex_bytes.l0, if_neg (by omega), not_cls]
    cases nt <;> rfl
  | d + 1, i, p, h => by
    have hi : i < L.length := by omega
    have e : L.drop i = L[i] :: L.drop (i + 1) := List.drop_eq_getElem_cons hi
    have hrd : rdOf ByteArray.empty L (i : Int) = L[i] := by
      unfold rdOf
      rw [Int.toNat_natCast, List.getD_eq_getElem?_getD, List.getElem?_eq_getElem hi]; rfl
    have hw := Aside0.mk (show wrap64 ((i : Int) + 1) = ((i + 1 : Nat) : Int) from w64 (by omega) (by omega))
    obtain ⟨q, hq, hqr⟩ := lexrow_eq L[i] (hs _ (List.getElem_mem hi))
    rw [e, List.map_cons]
    simp only [foldP]
    refine Ev.step (f := fun k => _) (fun k => by rw [lex_bytes.l0, if_pos (by omega), if_pos (by omega), if_pos (by omega), if_neg hx, hrd]) (Ev.bind hq ?_)
    cases hr : rowS (bs L[i]) with
    | none =>
      simp only [Option.isSome_none, Bool.false_eq_true, if_false]
      exact Ev.now _
    | some ab =>
      obtain ⟨a, b⟩ := ab
      have eq := hqr a b hr
      subst eq
      simp only [Option.isSome_some, if_true, join_cls, Option.bind_some, hw.out]
      exact bytes_loop x4 hx nt L hL hs d (i + 1) (addR p a b) (by omega)
theorem prefix_eq (s : ByteArray) : strings_CutPrefix.f s (⟨#[94]⟩ : ByteArray) = some (if (bs s).head? = some 94 then (s.extract 1 s.size, true) else (s, false)) := by
  unfold strings_CutPrefix.f stringslite_CutPrefix.f stringslite_HasPrefix.f
  have h1 : (⟨#[94]⟩ : ByteArray).size = 1 := rfl
  rw [h1]
  by_cases hs : 1 ≤ s.size
  · rw [if_pos (by omega), if_pos (by omega), if_pos (by omega), Option.bind_some]
    have e : (s.extract 0 ((1 : Nat) : Int).toNat).toList = [s.get! 0] := by
      rw [ByteArray.toList_eq]
      show bs _ = _
      rw [bs_ext]
      have : (bs s).head? = some (s.get! 0) := by rw [List.head?_eq_getElem?, bs_get s 0 (by omega)]
      cases hb : bs s with
      | nil => rw [hb] at this; cases this
      | cons x t => rw [hb] at this; have := Option.some.inj this; simp [this]
    have h0 : (bs s).head? = some (s.get! 0) := by rw [List.head?_eq_getElem?, bs_get s 0 (by omega)]
    have e94 : (⟨#[94]⟩ : ByteArray).toList = [94] := by rw [ByteArray.toList_eq]
    rw [e, e94, h0]
    by_cases hc : s.get! 0 = 94
    · rw [hc, if_pos (show ([(94 : UInt8)] == [94]) = true by decide), if_pos (by omega), if_pos (by omega), if_pos rfl]
      rfl
    · have : ([s.get! 0] == [(94 : UInt8)]) = false := by simpa using hc
      rw [this, if_neg (by decide), if_neg (by simpa using hc)]
      rfl
  · rw [if_neg (by omega), Option.bind_some, if_neg (by decide)]
    have : (bs s).head? = none := by rw [List.head?_eq_getElem?, List.getElem?_eq_none (by rw [bs_len]; omega)]
    rw [this, if_neg (by simp)]
    rfl
theorem pieces_le (c : UInt8) : ∀ (n : Nat) (l : List UInt8), l.length ≤ n → ∀ x ∈ pieces c l, x.length ≤ l.length
  | n, l, hn, x, hx => by
    rw [pieces_eq] at hx
    rcases List.mem_cons.1 hx with rfl | hx
    · exact (List.takeWhile_prefix _).length_le
    · rcases from1_cases c l with ⟨h1, h2, h3⟩ | ⟨h1, t, h2, h3⟩
      · rw [h2] at hx; cases hx
      · rw [h2] at hx
        have hlen : t.length < l.length := by
          have := congrArg List.length h3
          rw [List.length_append, List.length_cons] at this
          omega
        match n, hn with
        | 0, hn => omega
        | n + 1, hn =>
          have := pieces_le c n t (by omega) x hx
          omega
def strip94 (l : List UInt8) : List UInt8 := if l.head? = some 94 then l.drop 1 else l
def bytesS (l : List UInt8) : Option (Nat → Bool) := if strip94 l = [] then some (fun _ => false) else foldP (pieces 44 (strip94 l)) (fun _ => false)
theorem lexbytes_eq (s : ByteArray) (hs : s.size ≤ 3000) : Ev (fun k => lex_bytes.f k s) (bytesTok (decide ((bs s).head? = some 94)) (bytesS (bs s))) := by
  have main : ∀ (t : ByteArray) (nt : Bool), t.size ≤ s.size → bs t = strip94 (bs s) → Ev (fun k => (strings_Split.f t (⟨#[44]⟩ : ByteArray)).bind fun t135 => lex_bytes.l0 k t nt t135 (t135.length : Int) 0 0 0 0 0) (bytesTok nt (bytesS (bs s))) := by
    intro t nt ht hb
    have hsp : strings_Split.f t (⟨#[44]⟩ : ByteArray) = some (Lib.splitB ⟨#[44]⟩ 0 (Lib.countB t ⟨#[44]⟩) t) := by
      unfold strings_Split.f
      rw [if_pos ⟨by omega, by decide⟩]
    simp only [hsp, Option.bind_some]
    have hmap : (Lib.splitB ⟨#[44]⟩ 0 (Lib.countB t ⟨#[44]⟩) t).map bs = pieces 44 (bs t) := by
      have h := Lib.splitB_data ⟨#[44]⟩ 0 (Lib.countB t ⟨#[44]⟩) t
      have e : (⟨#[44]⟩ : ByteArray).data.toList = [44] := rfl
      rw [e] at h
      refine h.trans ?_
      unfold pieces
      rw [← Lib.count_one]
    have hlen : (Lib.splitB ⟨#[44]⟩ 0 (Lib.countB t ⟨#[44]⟩) t).length ≤ 9000 := by
      have h1 := Lib.splitB_length_le ⟨#[44]⟩ 0 (Lib.countB t ⟨#[44]⟩) t
      have h2 := Lib.countB_le ⟨#[44]⟩ (by decide) t.size t (Nat.le_refl _)
      omega
    have hsz : ∀ x ∈ Lib.splitB ⟨#[44]⟩ 0 (Lib.countB t ⟨#[44]⟩) t, x.size ≤ 4000 := by
      intro x hx
      have h1 : bs x ∈ pieces 44 (bs t) := by rw [← hmap]; exact List.mem_map_of_mem hx
      have h2 := pieces_le 44 _ (bs t) (Nat.le_refl _) _ h1
      rw [bs_len, bs_len] at h2
      omega
    have h0 : cls (fun _ => false) = (0, 0, 0, 0) := cls_none
    by_cases he : bs t = []
    · have hl1 : 0 < (Lib.splitB ⟨#[44]⟩ 0 (Lib.countB t ⟨#[44]⟩) t).length := by
        have := congrArg List.length hmap
        rw [List.length_map, pieces_eq, List.length_cons] at this
        omega
      unfold bytesS
      rw [← hb, if_pos he]
      refine Ev.step (f := fun _ => some (bytesTok nt (some fun _ => false))) (fun k => ?_) ⟨0, fun _ _ => rfl⟩
      rw [lex_bytes.l0, if_pos (by omega), if_pos (by omega), if_pos (by omega), if_pos ((toList_nil t).2 he)]
      have hn := not_cls (fun _ => false)
      rw [h0] at hn
      rw [hn]
      cases nt
      · simp only [Bool.false_eq_true, if_false]
        show _ = some (bytesTok false (some fun _ => false))
        unfold bytesTok Qn
        simp only [Bool.false_eq_true, if_false]
        rw [h0]
      · rfl
    · unfold bytesS
      rw [← hb, if_neg he]
      have hl := bytes_loop t (fun q => he ((toList_nil t).1 q)) nt _ hlen hsz _ 0 (fun _ => false) (Nat.zero_add _)
      rw [h0, List.drop_zero, hmap] at hl
      exact hl
  unfold lex_bytes.f
  simp only [prefix_eq, Option.bind_some]
  by_cases hc : (bs s).head? = some 94
  · simp only [hc, if_true, decide_true]
    refine main _ true (by rw [ByteArray.size_extract]; omega) ?_
    rw [bs_ext]
    unfold strip94
    rw [if_pos hc, List.take_of_length_le (by rw [List.length_drop, bs_len]; omega)]
  · have hd : decide ((bs s).head? = some 94) = false := decide_eq_false hc
    simp only [if_neg hc, hd]
    refine main s false (Nat.le_refl _) ?_
    unfold strip94
    rw [if_neg hc]
end Go.Proofs.YtepnbnpgifpfbaaDoor.G
namespace Go.Proofs.YtepnbnpgifpfbaaDoor.G
open Go.RowKit Go.Proofs.YtepnbnpgifpfbaaDoorW.PrintWords Go.Proofs.YtepnbnpgifpfbaaDoorW.PrintMore
theorem drop_get (s : ByteArray) (i : Nat) (h : i < s.size) : (bs s).drop i = s.get! i :: (bs s).drop (i + 1) := by
  have hl : i < (bs s).length := by rw [bs_len]; exact h
  rw [List.drop_eq_getElem_cons hl, get_bang s i h]
theorem drop_end (s : ByteArray) (i : Nat) (h : s.size ≤ i) : (bs s).drop i = [] := List.drop_eq_nil_of_le (by rw [bs_len]; exact h)
end Go.Proofs.YtepnbnpgifpfbaaDoor.G
