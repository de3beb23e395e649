/- Lemmas and walks of this claim: PU8, PNum, PIdx, PCls, PBytes, PBytesA. -/
import Derived.Test.YtepnbnpgifpfbaaDoorZKb
import Derived.Test.YtepnbnpgifpfbaaDoorZKc
import Derived.Test.YtepnbnpgifpfbaaDoorZKe
import Derived.Test.YtepnbnpgifpfbaaDoorZRa
import Derived.Test.YtepnbnpgifpfbaaDoorZRb
import Derived.Test.YtepnbnpgifpfbaaDoorZRc
import Derived.Lib.ValidLaws
import Derived.Lib.IndexLaws
import Derived.Lib.SplitLaws
set_option linter.unusedVariables false
set_option linter.unusedSimpArgs false
namespace Go.Proofs.YtepnbnpgifpfbaaDoor.G
open Go.RowKit Go.Proofs.YtepnbnpgifpfbaaDoorW.PrintWords Go.Proofs.YtepnbnpgifpfbaaDoorW.PrintMore
def u8N (n b0 b1 b2 b3 : Nat) : Option Nat :=
  if b0 < 128 then some 1
  else if 194 ≤ b0 ∧ b0 ≤ 223 ∧ (1 < n ∧ 128 ≤ b1 ∧ b1 ≤ 191) then some 2
  else if b0 = 224 ∧ (1 < n ∧ 160 ≤ b1 ∧ b1 ≤ 191) ∧ (2 < n ∧ 128 ≤ b2 ∧ b2 ≤ 191) then some 3
  else if ((225 ≤ b0 ∧ b0 ≤ 236) ∨ b0 = 238 ∨ b0 = 239) ∧ (1 < n ∧ 128 ≤ b1 ∧ b1 ≤ 191) ∧ (2 < n ∧ 128 ≤ b2 ∧ b2 ≤ 191) then some 3
  else if b0 = 237 ∧ (1 < n ∧ 128 ≤ b1 ∧ b1 ≤ 159) ∧ (2 < n ∧ 128 ≤ b2 ∧ b2 ≤ 191) then some 3
  else if b0 = 240 ∧ (1 < n ∧ 144 ≤ b1 ∧ b1 ≤ 191) ∧ (2 < n ∧ 128 ≤ b2 ∧ b2 ≤ 191) ∧ (3 < n ∧ 128 ≤ b3 ∧ b3 ≤ 191) then some 4
  else if 241 ≤ b0 ∧ b0 ≤ 243 ∧ (1 < n ∧ 128 ≤ b1 ∧ b1 ≤ 191) ∧ (2 < n ∧ 128 ≤ b2 ∧ b2 ≤ 191) ∧ (3 < n ∧ 128 ≤ b3 ∧ b3 ≤ 191) then some 4
  else if b0 = 244 ∧ (1 < n ∧ 128 ≤ b1 ∧ b1 ≤ 143) ∧ (2 < n ∧ 128 ≤ b2 ∧ b2 ≤ 191) ∧ (3 < n ∧ 128 ≤ b3 ∧ b3 ≤ 191) then some 4
  else none
def okN (p : Nat × Nat) : Option Nat := if p.1 = 65533 ∧ p.2 = 1 then none else some p.2
theorem okN_check (n b0 b1 b2 b3 : Nat) (hn : 1 ≤ n) (h : 128 ≤ b0) (h0 : b0 < 256) (h1 : b1 < 256) (h2 : b2 < 256) (h3 : b3 < 256) :
    okN (Lib.decodeN n b0 b1 b2 b3) = Lib.checkN n b1 b2 b3 (Lib.firstT b0 % 8) (Lib.accLo (Lib.firstT b0 / 16)) (Lib.accHi (Lib.firstT b0 / 16)) := by
  rcases Lib.check_decode n b0 b1 b2 b3 hn h h0 h1 h2 h3 with ⟨e, d⟩ | ⟨k, hk, e, d⟩
  · rw [e, d]; rfl
  · rw [e]
    unfold okN
    rw [if_neg (by omega), d]
theorem check2 (n b1 b2 b3 lo hi : Nat) : Lib.checkN n b1 b2 b3 2 lo hi = if 1 < n ∧ lo ≤ b1 ∧ b1 ≤ hi then some 2 else none := by
  unfold Lib.checkN
  simp only [if_true]
  repeat' split
  all_goals first | rfl | (exfalso; omega)
theorem check3 (n b1 b2 b3 lo hi : Nat) : Lib.checkN n b1 b2 b3 3 lo hi = if (1 < n ∧ lo ≤ b1 ∧ b1 ≤ hi) ∧ (2 < n ∧ 128 ≤ b2 ∧ b2 ≤ 191) then some 3 else none := by
  unfold Lib.checkN
  simp only [if_true]
  rw [if_neg (by decide)]
  repeat' split
  all_goals first | rfl | (exfalso; omega)
theorem check4 (n b1 b2 b3 lo hi : Nat) : Lib.checkN n b1 b2 b3 4 lo hi = if (1 < n ∧ lo ≤ b1 ∧ b1 ≤ hi) ∧ (2 < n ∧ 128 ≤ b2 ∧ b2 ≤ 191) ∧ (3 < n ∧ 128 ≤ b3 ∧ b3 ≤ 191) then some 4 else none := by
  unfold Lib.checkN
  simp only [if_true]
  rw [if_neg (by decide), if_neg (by decide)]
  repeat' split
  all_goals first | rfl | (exfalso; omega)
theorem u8N_eq (n b0 b1 b2 b3 : Nat) (hn : 1 ≤ n) (h0 : b0 < 256) (h1 : b1 < 256) (h2 : b2 < 256) (h3 : b3 < 256) : u8N n b0 b1 b2 b3 = okN (Lib.decodeN n b0 b1 b2 b3) := by
  by_cases h : b0 < 128
  · unfold u8N Lib.decodeN
    rw [if_pos h, if_pos h]
    unfold okN
    rw [if_neg (by simp only; omega)]
  · rw [okN_check n b0 b1 b2 b3 hn (by omega) h0 h1 h2 h3]
    obtain ⟨R, hR⟩ : ∃ R, R = Lib.checkN n b1 b2 b3 (Lib.firstT b0 % 8) (Lib.accLo (Lib.firstT b0 / 16)) (Lib.accHi (Lib.firstT b0 / 16)) := ⟨_, rfl⟩
    rw [← hR]
    have key : ∀ x, Lib.firstT b0 = x → Lib.checkN n b1 b2 b3 (x % 8) (Lib.accLo (x / 16)) (Lib.accHi (x / 16)) = u8N n b0 b1 b2 b3 → u8N n b0 b1 b2 b3 = R := fun x e h => by rw [hR, e, h]
    clear hR
    unfold Lib.firstT at key
    rw [if_neg h] at key
    unfold u8N at key ⊢
    rw [if_neg h] at key ⊢
    by_cases c1 : b0 < 194
    · rw [if_pos c1] at key
      refine key 241 rfl ?_
      rw [if_neg (by omega), if_neg (by omega), if_neg (by omega), if_neg (by omega), if_neg (by omega), if_neg (by omega), if_neg (by omega)]
      rfl
    rw [if_neg c1] at key
    by_cases c2 : b0 < 224
    · rw [if_pos c2] at key
      refine key 2 rfl ?_
      show Lib.checkN n b1 b2 b3 2 128 191 = _
      rw [check2]
      rw [if_neg (by omega : ¬ (b0 = 224 ∧ _)), if_neg (by omega : ¬ (((225 ≤ b0 ∧ b0 ≤ 236) ∨ b0 = 238 ∨ b0 = 239) ∧ _)), if_neg (by omega : ¬ (b0 = 237 ∧ _)), if_neg (by omega : ¬ (b0 = 240 ∧ _)), if_neg (by omega : ¬ (241 ≤ b0 ∧ b0 ≤ 243 ∧ _)), if_neg (by omega : ¬ (b0 = 244 ∧ _))]
      by_cases hc : 1 < n ∧ 128 ≤ b1 ∧ b1 ≤ 191
      · rw [if_pos hc, if_pos ⟨by omega, by omega, hc⟩]
      · rw [if_neg hc, if_neg (fun e => hc e.2.2)]
    rw [if_neg c2] at key
    rw [if_neg (by omega : ¬ (194 ≤ b0 ∧ b0 ≤ 223 ∧ _))] at key ⊢
    by_cases c3 : b0 = 224
    · rw [if_pos c3] at key
      refine key 19 rfl ?_
      show Lib.checkN n b1 b2 b3 3 160 191 = _
      rw [check3, if_neg (by omega : ¬ (((225 ≤ b0 ∧ b0 ≤ 236) ∨ b0 = 238 ∨ b0 = 239) ∧ _)), if_neg (by omega : ¬ (b0 = 237 ∧ _)), if_neg (by omega : ¬ (b0 = 240 ∧ _)), if_neg (by omega : ¬ (241 ≤ b0 ∧ b0 ≤ 243 ∧ _)), if_neg (by omega : ¬ (b0 = 244 ∧ _))]
      by_cases hc : (1 < n ∧ 160 ≤ b1 ∧ b1 ≤ 191) ∧ (2 < n ∧ 128 ≤ b2 ∧ b2 ≤ 191)
      · rw [if_pos hc, if_pos ⟨c3, hc⟩]
      · rw [if_neg hc, if_neg (fun e => hc e.2)]
    rw [if_neg c3] at key
    rw [if_neg (by omega : ¬ (b0 = 224 ∧ _))] at key ⊢
    have three : ((225 ≤ b0 ∧ b0 ≤ 236) ∨ b0 = 238 ∨ b0 = 239) → Lib.checkN n b1 b2 b3 3 128 191 = if ((225 ≤ b0 ∧ b0 ≤ 236) ∨ b0 = 238 ∨ b0 = 239) ∧ (1 < n ∧ 128 ≤ b1 ∧ b1 ≤ 191) ∧ (2 < n ∧ 128 ≤ b2 ∧ b2 ≤ 191) then some 3 else none := by
      intro h5
      rw [check3]
      by_cases hc : (1 < n ∧ 128 ≤ b1 ∧ b1 ≤ 191) ∧ (2 < n ∧ 128 ≤ b2 ∧ b2 ≤ 191)
      · rw [if_pos hc, if_pos ⟨h5, hc⟩]
      · rw [if_neg hc, if_neg (fun e => hc e.2)]
    by_cases c4 : b0 < 237
    · rw [if_pos c4] at key
      refine key 3 rfl ?_
      refine (three (by omega)).trans ?_
      rw [if_neg (by omega : ¬ (b0 = 237 ∧ _)), if_neg (by omega : ¬ (b0 = 240 ∧ _)), if_neg (by omega : ¬ (241 ≤ b0 ∧ b0 ≤ 243 ∧ _)), if_neg (by omega : ¬ (b0 = 244 ∧ _))]
    rw [if_neg c4] at key
    by_cases c5 : b0 = 237
    · rw [if_pos c5] at key
      refine key 35 rfl ?_
      show Lib.checkN n b1 b2 b3 3 128 159 = _
      rw [check3, if_neg (by omega : ¬ (((225 ≤ b0 ∧ b0 ≤ 236) ∨ b0 = 238 ∨ b0 = 239) ∧ _)), if_neg (by omega : ¬ (b0 = 240 ∧ _)), if_neg (by omega : ¬ (241 ≤ b0 ∧ b0 ≤ 243 ∧ _)), if_neg (by omega : ¬ (b0 = 244 ∧ _))]
      by_cases hc : (1 < n ∧ 128 ≤ b1 ∧ b1 ≤ 159) ∧ (2 < n ∧ 128 ≤ b2 ∧ b2 ≤ 191)
      · rw [if_pos hc, if_pos ⟨c5, hc⟩]
      · rw [if_neg hc, if_neg (fun e => hc e.2)]
    rw [if_neg c5] at key
    rw [if_neg (by omega : ¬ (b0 = 237 ∧ _))] at key ⊢
    by_cases c6 : b0 < 240
    · rw [if_pos c6] at key
      refine key 3 rfl ?_
      refine (three (by omega)).trans ?_
      rw [if_neg (by omega : ¬ (b0 = 240 ∧ _)), if_neg (by omega : ¬ (241 ≤ b0 ∧ b0 ≤ 243 ∧ _)), if_neg (by omega : ¬ (b0 = 244 ∧ _))]
    rw [if_neg c6] at key
    rw [if_neg (by omega : ¬ (((225 ≤ b0 ∧ b0 ≤ 236) ∨ b0 = 238 ∨ b0 = 239) ∧ _))] at key ⊢
    by_cases c7 : b0 = 240
    · rw [if_pos c7] at key
      refine key 52 rfl ?_
      show Lib.checkN n b1 b2 b3 4 144 191 = _
      rw [check4, if_neg (by omega : ¬ (241 ≤ b0 ∧ b0 ≤ 243 ∧ _)), if_neg (by omega : ¬ (b0 = 244 ∧ _))]
      by_cases hc : (1 < n ∧ 144 ≤ b1 ∧ b1 ≤ 191) ∧ (2 < n ∧ 128 ≤ b2 ∧ b2 ≤ 191) ∧ (3 < n ∧ 128 ≤ b3 ∧ b3 ≤ 191)
      · rw [if_pos hc, if_pos ⟨c7, hc⟩]
      · rw [if_neg hc, if_neg (fun e => hc e.2)]
    rw [if_neg c7] at key
    rw [if_neg (by omega : ¬ (b0 = 240 ∧ _))] at key ⊢
    by_cases c8 : b0 < 244
    · rw [if_pos c8] at key
      refine key 4 rfl ?_
      show Lib.checkN n b1 b2 b3 4 128 191 = _
      rw [check4, if_neg (by omega : ¬ (b0 = 244 ∧ _))]
      by_cases hc : (1 < n ∧ 128 ≤ b1 ∧ b1 ≤ 191) ∧ (2 < n ∧ 128 ≤ b2 ∧ b2 ≤ 191) ∧ (3 < n ∧ 128 ≤ b3 ∧ b3 ≤ 191)
      · rw [if_pos hc, if_pos ⟨by omega, by omega, hc⟩]
      · rw [if_neg hc, if_neg (fun e => hc e.2.2)]
    rw [if_neg c8] at key
    rw [if_neg (by omega : ¬ (241 ≤ b0 ∧ b0 ≤ 243 ∧ _))] at key ⊢
    by_cases c9 : b0 = 244
    · rw [if_pos c9] at key
      refine key 68 rfl ?_
      show Lib.checkN n b1 b2 b3 4 128 143 = _
      rw [check4]
      by_cases hc : (1 < n ∧ 128 ≤ b1 ∧ b1 ≤ 143) ∧ (2 < n ∧ 128 ≤ b2 ∧ b2 ≤ 191) ∧ (3 < n ∧ 128 ≤ b3 ∧ b3 ≤ 191)
      · rw [if_pos hc, if_pos ⟨c9, hc⟩]
      · rw [if_neg hc, if_neg (fun e => hc e.2)]
    rw [if_neg c9] at key
    refine key 241 rfl ?_
    rw [if_neg (by omega)]
    rfl
theorem w64 {x : Int} (h : -9223372036854775808 ≤ x) (h' : x < 9223372036854775808) : wrap64 x = x := by unfold wrap64; omega
def bN (s : ByteArray) (i : Nat) : Nat := (s.get! i).toNat
theorem bN_lt (s : ByteArray) (i : Nat) : bN s i < 256 := UInt8.toNat_lt _
theorem get_out (s : ByteArray) (i : Nat) (h : ¬ i < s.size) : s.get! i = 0 := by
  have : s.get! i = s.data[i]! := rfl
  rw [this, getElem!_neg s.data i (by simpa using h)]
  rfl
theorem get_in (s : ByteArray) (i : Nat) (h : i < s.size) : s.get! i = s[i] := by
  have : s.get! i = s.data[i]! := rfl
  rw [this, getElem!_pos s.data i (by simpa using h)]
  rfl
theorem bt_nat (s : ByteArray) (i : Nat) : bt s (i : Int) = (bN s i : Int) := by
  unfold bt bN
  by_cases h : i < s.size
  · have h' : ((i : Int)).toNat < s.size := by simpa using h
    rw [dif_pos h', get_in s i h]
    simp
  · have h' : ¬ ((i : Int)).toNat < s.size := by simpa using h
    rw [dif_neg h', get_out s i h]
    rfl
theorem get_ext (s : ByteArray) (a b i : Nat) (h : a + i < b) : (s.extract a b).get! i = s.get! (a + i) := by
  by_cases h1 : a + i < s.size
  · have h2 : i < (s.extract a b).size := by rw [ByteArray.size_extract]; omega
    rw [get_in _ _ h2, get_in _ _ h1, ByteArray.getElem_extract]
  · have h2 : ¬ i < (s.extract a b).size := by rw [ByteArray.size_extract]; omega
    rw [get_out _ _ h2, get_out _ _ h1]
theorem get_ext_end (s : ByteArray) (a i : Nat) : (s.extract a s.size).get! i = s.get! (a + i) := by
  by_cases h : a + i < s.size
  · exact get_ext s a s.size i h
  · have h2 : ¬ i < (s.extract a s.size).size := by rw [ByteArray.size_extract]; omega
    rw [get_out _ _ h2, get_out _ _ h]
theorem decodeGo_ext (s : ByteArray) (pos : Nat) (hp : pos < s.size) : Lib.decodeGo (s.extract pos s.size) = Utf8.decode s pos := by
  unfold Lib.decodeGo
  have hs : (s.extract pos s.size).size = s.size - pos := by rw [ByteArray.size_extract, Nat.min_self]
  rw [if_neg (by omega), Lib.decode_at, Lib.decode_at, hs]
  simp only [get_ext_end, Nat.add_zero, Nat.zero_add, Nat.sub_zero]
theorem in_eq (s : ByteArray) (hs : s.size ≤ 140737488351232) (pos j lo hi : Nat) (hp : pos < s.size) (hj : j ≤ 3) :
    scantlingref03_in.f s (wrap64 ((pos : Int) + (j : Int))) (lo : Int) (hi : Int) = some (decide (j < s.size - pos ∧ lo ≤ bN s (pos + j) ∧ bN s (pos + j) ≤ hi)) := by
  have hb := bN_lt s (pos + j)
  rw [w64 (by omega) (by omega)]
  unfold scantlingref03_in.f
  have e : (pos : Int) + (j : Int) = ((pos + j : Nat) : Int) := by omega
  rw [e, bt_nat, w64 (by omega) (by omega)]
  by_cases h1 : pos + j < s.size
  · rw [if_pos (by omega), if_pos (by omega)]
    by_cases h2 : lo ≤ bN s (pos + j)
    · rw [if_pos (by omega)]
      congr 1
      exact decide_eq_decide.2 (by omega)
    · rw [if_neg (by omega)]
      congr 1
      exact (decide_eq_false (by omega)).symm
  · rw [if_neg (by omega)]
    congr 1
    exact (decide_eq_false (by omega)).symm
def casc (b0 : Nat) (a b c d e f g : Bool) : Option Nat :=
  if b0 < 128 then some 1 else if 194 ≤ b0 ∧ b0 ≤ 223 ∧ a = true then some 2
  else if b0 = 224 ∧ d = true ∧ b = true then some 3
  else if ((225 ≤ b0 ∧ b0 ≤ 236) ∨ b0 = 238 ∨ b0 = 239) ∧ a = true ∧ b = true then some 3
  else if b0 = 237 ∧ e = true ∧ b = true then some 3
  else if b0 = 240 ∧ f = true ∧ b = true ∧ c = true then some 4
  else if 241 ≤ b0 ∧ b0 ≤ 243 ∧ a = true ∧ b = true ∧ c = true then some 4
  else if b0 = 244 ∧ g = true ∧ b = true ∧ c = true then some 4 else none
theorem u8N_casc (n b0 b1 b2 b3 : Nat) : u8N n b0 b1 b2 b3 = casc b0 (decide (1 < n ∧ 128 ≤ b1 ∧ b1 ≤ 191)) (decide (2 < n ∧ 128 ≤ b2 ∧ b2 ≤ 191)) (decide (3 < n ∧ 128 ≤ b3 ∧ b3 ≤ 191)) (decide (1 < n ∧ 160 ≤ b1 ∧ b1 ≤ 191)) (decide (1 < n ∧ 128 ≤ b1 ∧ b1 ≤ 159)) (decide (1 < n ∧ 144 ≤ b1 ∧ b1 ≤ 191)) (decide (1 < n ∧ 128 ≤ b1 ∧ b1 ≤ 143)) := by
  unfold u8N casc
  simp only [decide_eq_true_eq]
def goOn (k : Nat) (s : ByteArray) (pos : Nat) : Option Nat → Option Bool
  | none => some false
  | some d => scantlingref03_Utf8.l0 k s ((pos + d : Nat) : Int)
section
variable (s : ByteArray) (pos : Nat) (hs : s.size ≤ 140737488351232) (hp : pos < s.size) (x : Nat) (hx : x < 256) (a b c d e f g : Bool)
theorem wp (pos j : Nat) (n : Nat) (hn : n ≤ 140737488351232) (hp : pos < n) (hj : j ≤ 4) : wrap64 ((pos : Int) + (j : Int)) = ((pos + j : Nat) : Int) := w64 (by omega) (by omega)
include hs hp in
theorem ref_j1 (hd : scantlingref03_in.f s (wrap64 ((pos : Int) + 1)) 160 191 = some d) (k : Nat) (t : Bool) :
    scantlingref03_Utf8.j1 (k + 1) s (pos : Int) (x : Int) a b c t = if t = true then scantlingref03_Utf8.l0 k s ((pos + 2 : Nat) : Int) else scantlingref03_Utf8.j2 k s (pos : Int) (x : Int) a b c (decide (x = 224) && d && b) := by
  rw [scantlingref03_Utf8.j1, hd]
  cases t with
  | true => simp only [if_true]; exact congrArg _ (wp pos 2 _ hs hp (by decide))
  | false =>
    simp only [Bool.false_eq_true, if_false, Option.bind_some]
    by_cases q : x = 224
    · rw [if_pos (by omega)]
      cases d <;> simp [q]
    · rw [if_neg (by omega)]
      simp [q]
include hs hp in
theorem ref_j2 (k : Nat) (t : Bool) :
    scantlingref03_Utf8.j2 (k + 1) s (pos : Int) (x : Int) a b c t = if t = true then scantlingref03_Utf8.l0 k s ((pos + 3 : Nat) : Int) else scantlingref03_Utf8.j3 k s (pos : Int) (x : Int) a b c (decide ((225 ≤ x ∧ x ≤ 236) ∨ x = 238 ∨ x = 239) && a && b) := by
  rw [scantlingref03_Utf8.j2]
  cases t with
  | true => simp only [if_true]; exact congrArg _ (wp pos 3 _ hs hp (by decide))
  | false =>
    simp only [Bool.false_eq_true, if_false]
    by_cases q : (225 ≤ x ∧ x ≤ 236) ∨ x = 238 ∨ x = 239
    · rw [decide_eq_true q]
      cases a with
      | true => simp only [if_true, Bool.true_and]; repeat' split
                all_goals first | rfl | (exfalso; omega)
      | false => simp only [Bool.false_eq_true, if_false, Bool.true_and, Bool.false_and]; repeat' split
                 all_goals first | rfl | (exfalso; omega)
    · rw [decide_eq_false q]
      simp only [Bool.false_and]
      rw [if_neg (by omega : ¬ ((x : Int) = 239)), if_neg (by omega : ¬ ((x : Int) = 238))]
      repeat' split
      all_goals first | rfl | (exfalso; omega)
include hs hp in
theorem ref_j3 (he : scantlingref03_in.f s (wrap64 ((pos : Int) + 1)) 128 159 = some e) (k : Nat) (t : Bool) :
    scantlingref03_Utf8.j3 (k + 1) s (pos : Int) (x : Int) a b c t = if t = true then scantlingref03_Utf8.l0 k s ((pos + 3 : Nat) : Int) else scantlingref03_Utf8.j4 k s (pos : Int) (x : Int) a b c (decide (x = 237) && e && b) := by
  rw [scantlingref03_Utf8.j3, he]
  cases t with
  | true => simp only [if_true]; exact congrArg _ (wp pos 3 _ hs hp (by decide))
  | false =>
    simp only [Bool.false_eq_true, if_false, Option.bind_some]
    by_cases q : x = 237
    · rw [if_pos (by omega)]
      cases e <;> simp [q]
    · rw [if_neg (by omega)]
      simp [q]
include hs hp in
theorem ref_j4 (hf : scantlingref03_in.f s (wrap64 ((pos : Int) + 1)) 144 191 = some f) (k : Nat) (t : Bool) :
    scantlingref03_Utf8.j4 (k + 1) s (pos : Int) (x : Int) a b c t = if t = true then scantlingref03_Utf8.l0 k s ((pos + 3 : Nat) : Int) else scantlingref03_Utf8.j5 k s (pos : Int) (x : Int) a b c (decide (x = 240) && f && b && c) := by
  rw [scantlingref03_Utf8.j4, hf]
  cases t with
  | true => simp only [if_true]; exact congrArg _ (wp pos 3 _ hs hp (by decide))
  | false =>
    simp only [Bool.false_eq_true, if_false, Option.bind_some]
    by_cases q : x = 240
    · rw [if_pos (by omega)]
      cases f <;> cases b <;> simp [q]
    · rw [if_neg (by omega)]
      simp [q]
include hs hp in
theorem ref_j5 (k : Nat) (t : Bool) :
    scantlingref03_Utf8.j5 (k + 1) s (pos : Int) (x : Int) a b c t = if t = true then scantlingref03_Utf8.l0 k s ((pos + 4 : Nat) : Int) else scantlingref03_Utf8.j6 k s (pos : Int) (x : Int) b c (decide (241 ≤ x ∧ x ≤ 243) && a && b && c) := by
  rw [scantlingref03_Utf8.j5]
  cases t with
  | true => simp only [if_true]; exact congrArg _ (wp pos 4 _ hs hp (by decide))
  | false =>
    simp only [Bool.false_eq_true, if_false]
    by_cases q : 241 ≤ x ∧ x ≤ 243
    · rw [if_pos (by omega), if_pos (by omega), decide_eq_true q]
      cases a <;> cases b <;> simp
    · rw [decide_eq_false q]
      simp only [Bool.false_and]
      by_cases q2 : 241 ≤ x
      · rw [if_pos (by omega), if_neg (by omega)]
      · rw [if_neg (by omega)]
include hs hp in
theorem ref_j6 (hg : scantlingref03_in.f s (wrap64 ((pos : Int) + 1)) 128 143 = some g) (k : Nat) (t : Bool) :
    scantlingref03_Utf8.j6 (k + 1) s (pos : Int) (x : Int) b c t = if t = true ∨ x = 244 ∧ g = true ∧ b = true ∧ c = true then scantlingref03_Utf8.l0 k s ((pos + 4 : Nat) : Int) else some false := by
  rw [scantlingref03_Utf8.j6, hg, show wrap64 ((pos : Int) + 4) = ((pos + 4 : Nat) : Int) from wp pos 4 _ hs hp (by decide)]
  cases t with
  | true => simp
  | false =>
    simp only [Bool.false_eq_true, if_false, Option.bind_some, false_or]
    by_cases q : x = 244
    · rw [if_pos (by omega)]
      cases g <;> cases b <;> cases c <;> simp [q]
    · rw [if_neg (by omega), if_neg (by omega)]
include hs hp in
theorem ref_l0 (ha : scantlingref03_in.f s (wrap64 ((pos : Int) + 1)) 128 191 = some a) (hb : scantlingref03_in.f s (wrap64 ((pos : Int) + 2)) 128 191 = some b) (hc : scantlingref03_in.f s (wrap64 ((pos : Int) + 3)) 128 191 = some c) (k : Nat) :
    scantlingref03_Utf8.l0 (k + 1) s (pos : Int) = if bN s pos < 128 then scantlingref03_Utf8.l0 k s ((pos + 1 : Nat) : Int) else scantlingref03_Utf8.j1 k s (pos : Int) (bN s pos : Int) a b c (decide (194 ≤ bN s pos ∧ bN s pos ≤ 223) && a) := by
  have hb' := bN_lt s pos
  have wb : wrap64 (bt s (pos : Int)) = (bN s pos : Int) := by rw [bt_nat]; exact w64 (by omega) (by omega)
  rw [scantlingref03_Utf8.l0, if_pos (by omega), if_pos (by omega), ha, Option.bind_some, hb, Option.bind_some, hc, Option.bind_some, wb, show wrap64 ((pos : Int) + 1) = ((pos + 1 : Nat) : Int) from wp pos 1 _ hs hp (by decide)]
  clear wb ha hb hc
  generalize bN s pos = x at *
  by_cases c0 : x < 128
  · rw [if_pos c0, if_pos (by omega)]
  rw [if_neg c0, if_neg (by omega)]
  by_cases q : 194 ≤ x ∧ x ≤ 223
  · rw [if_pos (by omega), if_pos (by omega), decide_eq_true q, Bool.true_and]
  · rw [decide_eq_false q, Bool.false_and]
    by_cases q2 : 194 ≤ x
    · rw [if_pos (by omega), if_neg (by omega)]
    · rw [if_neg (by omega)]
end
theorem ref_casc (s : ByteArray) (hs : s.size ≤ 140737488351232) (pos : Nat) (hp : pos < s.size) (a b c d e f g : Bool)
    (ha : scantlingref03_in.f s (wrap64 ((pos : Int) + 1)) 128 191 = some a) (hb : scantlingref03_in.f s (wrap64 ((pos : Int) + 2)) 128 191 = some b) (hc : scantlingref03_in.f s (wrap64 ((pos : Int) + 3)) 128 191 = some c)
    (hd : scantlingref03_in.f s (wrap64 ((pos : Int) + 1)) 160 191 = some d) (he : scantlingref03_in.f s (wrap64 ((pos : Int) + 1)) 128 159 = some e)
    (hf : scantlingref03_in.f s (wrap64 ((pos : Int) + 1)) 144 191 = some f) (hg : scantlingref03_in.f s (wrap64 ((pos : Int) + 1)) 128 143 = some g) (r : Bool)
    (h : Ev (fun k => goOn k s pos (casc (bN s pos) a b c d e f g)) r) : Ev (fun k => scantlingref03_Utf8.l0 k s (pos : Int)) r := by
  refine Ev.step (fun k => ref_l0 s pos hs hp a b c ha hb hc k) ?_
  unfold casc at h
  by_cases c0 : bN s pos < 128
  · simp only [if_pos c0] at h ⊢
    exact h
  simp only [if_neg c0] at h ⊢
  refine Ev.step (fun k => ref_j1 s pos hs hp _ a b c d hd k _) ?_
  by_cases c1 : 194 ≤ bN s pos ∧ bN s pos ≤ 223 ∧ a = true
  · simp only [if_pos c1, if_pos (show (decide (194 ≤ bN s pos ∧ bN s pos ≤ 223) && a) = true by simp [c1])] at h ⊢
    exact h
  simp only [if_neg c1, if_neg (show ¬ (decide (194 ≤ bN s pos ∧ bN s pos ≤ 223) && a) = true by simpa [and_assoc] using c1)] at h ⊢
  refine Ev.step (fun k => ref_j2 s pos hs hp _ a b c k _) ?_
  by_cases c2 : bN s pos = 224 ∧ d = true ∧ b = true
  · simp only [if_pos c2, if_pos (show (decide (bN s pos = 224) && d && b) = true by simp [c2])] at h ⊢
    exact h
  simp only [if_neg c2, if_neg (show ¬ (decide (bN s pos = 224) && d && b) = true by simpa [and_assoc] using c2)] at h ⊢
  refine Ev.step (fun k => ref_j3 s pos hs hp _ a b c e he k _) ?_
  by_cases c3 : ((225 ≤ bN s pos ∧ bN s pos ≤ 236) ∨ bN s pos = 238 ∨ bN s pos = 239) ∧ a = true ∧ b = true
  · simp only [if_pos c3, if_pos (show (decide ((225 ≤ bN s pos ∧ bN s pos ≤ 236) ∨ bN s pos = 238 ∨ bN s pos = 239) && a && b) = true by simp [c3])] at h ⊢
    exact h
  simp only [if_neg c3, if_neg (show ¬ (decide ((225 ≤ bN s pos ∧ bN s pos ≤ 236) ∨ bN s pos = 238 ∨ bN s pos = 239) && a && b) = true by simpa [and_assoc] using c3)] at h ⊢
  refine Ev.step (fun k => ref_j4 s pos hs hp _ a b c f hf k _) ?_
  by_cases c4 : bN s pos = 237 ∧ e = true ∧ b = true
  · simp only [if_pos c4, if_pos (show (decide (bN s pos = 237) && e && b) = true by simp [c4])] at h ⊢
    exact h
  simp only [if_neg c4, if_neg (show ¬ (decide (bN s pos = 237) && e && b) = true by simpa [and_assoc] using c4)] at h ⊢
  refine Ev.step (fun k => ref_j5 s pos hs hp _ a b c k _) ?_
  by_cases c5 : bN s pos = 240 ∧ f = true ∧ b = true ∧ c = true
  · simp only [if_pos c5, if_pos (show (decide (bN s pos = 240) && f && b && c) = true by simp [c5])] at h ⊢
    exact h
  simp only [if_neg c5, if_neg (show ¬ (decide (bN s pos = 240) && f && b && c) = true by simpa [and_assoc] using c5)] at h ⊢
  refine Ev.step (fun k => ref_j6 s pos hs hp _ b c g hg k _) ?_
  by_cases c6 : 241 ≤ bN s pos ∧ bN s pos ≤ 243 ∧ a = true ∧ b = true ∧ c = true
  · simp only [if_pos c6] at h
    simp only [if_pos (show (decide (241 ≤ bN s pos ∧ bN s pos ≤ 243) && a && b && c) = true ∨ bN s pos = 244 ∧ g = true ∧ b = true ∧ c = true from .inl (by simp [c6]))]
    exact h
  simp only [if_neg c6] at h
  have n6 : ¬ (decide (241 ≤ bN s pos ∧ bN s pos ≤ 243) && a && b && c) = true := by simpa [and_assoc] using c6
  by_cases c7 : bN s pos = 244 ∧ g = true ∧ b = true ∧ c = true
  · simp only [if_pos c7] at h
    simp only [if_pos (show (decide (241 ≤ bN s pos ∧ bN s pos ≤ 243) && a && b && c) = true ∨ bN s pos = 244 ∧ g = true ∧ b = true ∧ c = true from .inr c7)]
    exact h
  · simp only [if_neg c7] at h
    simp only [if_neg (show ¬ ((decide (241 ≤ bN s pos ∧ bN s pos ≤ 243) && a && b && c) = true ∨ bN s pos = 244 ∧ g = true ∧ b = true ∧ c = true) from fun q => q.elim n6 c7)]
    exact h
theorem utf8_from (s : ByteArray) (hs : s.size ≤ 140737488351232) : ∀ (f pos : Nat), s.size ≤ f + pos → Ev (fun k => scantlingref03_Utf8.l0 k s (pos : Int)) (utf8From s f pos)
  | f, pos, hf => by
    by_cases hp : pos < s.size
    · obtain ⟨f, rfl⟩ : ∃ g, f = g + 1 := ⟨f - 1, by omega⟩
      have q := in_eq s hs pos
      refine ref_casc s hs pos hp _ _ _ _ _ _ _ (q 1 128 191 hp (by omega)) (q 2 128 191 hp (by omega)) (q 3 128 191 hp (by omega)) (q 1 160 191 hp (by omega)) (q 1 128 159 hp (by omega)) (q 1 144 191 hp (by omega)) (q 1 128 143 hp (by omega)) _ ?_
      rw [← u8N_casc, u8N_eq _ _ _ _ _ (by omega) (bN_lt _ _) (bN_lt _ _) (bN_lt _ _) (bN_lt _ _)]
      have hd : Utf8.decode s pos = Lib.decodeN (s.size - pos) (bN s pos) (bN s (pos + 1)) (bN s (pos + 2)) (bN s (pos + 3)) := Lib.decode_at s pos
      rw [← hd]
      unfold utf8From
      rw [if_pos hp]
      have hgo := decodeGo_ext s pos hp
      rw [hgo]
      unfold okN
      have hw := Lib.width_pos s pos
      by_cases h1 : (Utf8.decode s pos).1 = 65533
      · rw [if_pos h1]
        by_cases h2 : (Utf8.decode s pos).2 = 1
        · rw [if_pos h2, if_pos ⟨h1, h2⟩]
          exact ⟨0, fun _ _ => rfl⟩
        · rw [if_neg h2, if_neg (fun h => h2 h.2)]
          exact utf8_from s hs f _ (by omega)
      · rw [if_neg h1, if_neg (fun h => h1 h.1)]
        exact utf8_from s hs f _ (by omega)
    · have e : utf8From s f pos = true := by
        cases f with
        | zero => rfl
        | succ f => unfold utf8From; rw [if_neg hp]
      rw [e]
      refine Ev.step (f := fun _ => some true) (fun k => ?_) ⟨0, fun _ _ => rfl⟩
      rw [scantlingref03_Utf8.l0, if_neg (by omega)]
termination_by f => f
theorem utf8_same (s : ByteArray) (hs : s.size ≤ 140737488351232) : Ev (fun k => scantlingref03_Utf8.f k s) (utf8From s s.size 0) := utf8_from s hs s.size 0 (by omega)
end Go.Proofs.YtepnbnpgifpfbaaDoor.G
namespace Go.Proofs.YtepnbnpgifpfbaaDoor.G
open Go.RowKit Go.Proofs.YtepnbnpgifpfbaaDoorW.PrintWords Go.Proofs.YtepnbnpgifpfbaaDoorW.PrintMore
def dg (b : UInt8) : Bool := decide (48 ≤ b.toNat) && decide (b.toNat ≤ 57)
theorem digits10_eq : digits10 = ⟨#[48, 49, 50, 51, 52, 53, 54, 55, 56, 57]⟩ := by decide
theorem dec10 : ∀ i, i < 10 → Utf8.decode digits10 i = (48 + i, 1) := by
  intro i hi
  rw [digits10_eq]
  match i, hi with
  | 0, _ => rfl
  | 1, _ => rfl
  | 2, _ => rfl
  | 3, _ => rfl
  | 4, _ => rfl
  | 5, _ => rfl
  | 6, _ => rfl
  | 7, _ => rfl
  | 8, _ => rfl
  | 9, _ => rfl
theorem size10 : digits10.size = 10 := by rw [digits10_eq]; rfl
theorem in10 (c : Nat) : inFrom digits10 c digits10.size 0 false = (decide (48 ≤ c) && decide (c ≤ 57)) := by
  rw [size10]
  simp only [inFrom, size10, dec10, Nat.reduceLT, Nat.reduceAdd, if_true, Bool.false_or]
  rw [Bool.eq_iff_iff]
  simp only [Bool.or_eq_true, Bool.and_eq_true, beq_iff_eq, decide_eq_true_eq]
  omega
theorem decodeN_digit (n b0 b1 b2 b3 : Nat) : (48 ≤ (Lib.decodeN n b0 b1 b2 b3).1 ∧ (Lib.decodeN n b0 b1 b2 b3).1 ≤ 57) ↔ (48 ≤ b0 ∧ b0 ≤ 57) := by
  unfold Lib.decodeN
  repeat' split
  all_goals simp only
  all_goals omega
theorem decodeN_one (n b0 b1 b2 b3 : Nat) (h : 48 ≤ b0 ∧ b0 ≤ 57) : (Lib.decodeN n b0 b1 b2 b3).2 = 1 := by
  unfold Lib.decodeN
  rw [if_pos (by omega)]
theorem get_bang (s : ByteArray) (i : Nat) (h : i < s.size) : s.get! i = s.data.toList[i]'(by simpa using h) := by
  have : s.get! i = s.data[i]! := rfl
  rw [this]
  simp [getElem!_pos s.data i h]
theorem inDec (s : ByteArray) (i : Nat) : inFrom digits10 (Utf8.decode s i).1 digits10.size 0 false = dg (s.get! i) := by
  rw [in10, Lib.decode_at]
  unfold dg
  rw [Bool.eq_iff_iff]
  simp only [Bool.and_eq_true, decide_eq_true_eq]
  exact decodeN_digit _ _ _ _ _
theorem dg_one (s : ByteArray) (i : Nat) (h : dg (s.get! i) = true) : (Utf8.decode s i).2 = 1 := by
  rw [Lib.decode_at]
  exact decodeN_one _ _ _ _ _ (by simpa [dg] using h)
theorem cutLeft_all (s : ByteArray) (h : ∀ i, i < s.size → dg (s.get! i) = true) : ∀ f p, cutLeftFrom s digits10 f p = ⟨#[]⟩
  | 0, p => rfl
  | f + 1, p => by
    unfold cutLeftFrom
    by_cases hp : p < s.size
    · rw [if_pos hp, inDec, if_pos (h p hp)]
      exact cutLeft_all s h f _
    · rw [if_neg hp]
theorem cutLeft_some (s : ByteArray) (m : Nat) (hm : m < s.size) (hd : dg (s.get! m) = false) (hb : ∀ i, i < m → dg (s.get! i) = true) : ∀ f p, p ≤ m → s.size ≤ f + p → cutLeftFrom s digits10 f p = s.extract m s.size
  | 0, p, hp, hf => by omega
  | f + 1, p, hp, hf => by
    unfold cutLeftFrom
    rw [if_pos (by omega), inDec]
    by_cases e : p = m
    · subst e
      rw [hd, if_neg (by decide)]
    · have h1 := hb p (by omega)
      rw [if_pos h1, dg_one s p h1]
      exact cutLeft_some s m hm hd hb f (p + 1) (by omega) (by omega)
theorem decodeL_eq (l : List UInt8) : Lib.decodeL l = Lib.decodeN l.length (l.getD 0 0).toNat (l.getD 1 0).toNat (l.getD 2 0).toNat (l.getD 3 0).toNat := by
  unfold Lib.decodeL
  rw [Lib.decode_at]
  have g : ∀ i, (⟨l.toArray⟩ : ByteArray).get! i = l.getD i 0 := by
    intro i
    show l.toArray[i]! = _
    simp [List.getD_eq_getElem?_getD]
    rfl
  simp only [g, Nat.zero_add]
  rfl
theorem decodeLast_digit (l : List UInt8) (hl : l ≠ []) (h : 48 ≤ (Lib.decodeLastL l).1 ∧ (Lib.decodeLastL l).1 ≤ 57) : (Lib.decodeLastL l).2 = 1 ∧ dg (l.getD (l.length - 1) 0) = true := by
  unfold Lib.decodeLastL at h ⊢
  rw [if_neg hl] at h ⊢
  by_cases hc : (l.getD (l.length - 1) 0).toNat < 128
  · rw [if_pos hc] at h ⊢
    exact ⟨rfl, by simpa [dg] using h⟩
  · rw [if_neg hc] at h ⊢
    simp only at h ⊢
    by_cases he : Lib.lastStart l + (Lib.decodeL (l.drop (Lib.lastStart l))).2 = l.length
    · rw [if_pos he] at h
      rw [decodeL_eq] at h he
      have h0 := (decodeN_digit _ _ _ _ _).1 h
      rw [decodeN_one _ _ _ _ _ h0] at he
      have e : (l.drop (Lib.lastStart l)).getD 0 0 = l.getD (l.length - 1) 0 := by
        rw [List.getD_eq_getElem?_getD, List.getD_eq_getElem?_getD, List.getElem?_drop]
        congr 2
        omega
      rw [e] at h0
      omega
    · rw [if_neg he] at h
      simp [Utf8.runeError] at h
theorem cutRight_keeps : ∀ (f : Nat) (s : ByteArray), 0 < s.size → dg (s.get! 0) = false → 0 < (cutRightF digits10 f s).size
  | 0, s, h0, _ => h0
  | f + 1, s, h0, hd => by
    unfold cutRightF
    rw [if_pos h0, in10]
    have hl : s.data.toList ≠ [] := by
      intro e
      have : s.data.toList.length = 0 := by rw [e]; rfl
      have h2 : s.size = s.data.toList.length := by simp
      omega
    by_cases hc : 48 ≤ (Lib.decodeLastL s.data.toList).1 ∧ (Lib.decodeLastL s.data.toList).1 ≤ 57
    · rw [if_pos (by simpa using hc)]
      obtain ⟨h1, h2⟩ := decodeLast_digit _ hl hc
      rw [h1]
      have hlen : s.data.toList.length = s.size := by simp
      have h3 : 1 < s.size := by
        rcases Nat.lt_or_ge 1 s.size with h | h
        · exact h
        · have e1 : s.size = 1 := by omega
          rw [hlen, e1] at h2
          rw [get_bang s 0 h0] at hd
          rw [List.getD_eq_getElem?_getD, List.getElem?_eq_getElem (by omega)] at h2
          simp only [Option.getD_some] at h2
          rw [hd] at h2
          cases h2
      have hs : (s.extract 0 (s.size - 1)).size = s.size - 1 := by simp [ByteArray.size_extract]
      refine cutRight_keeps f _ (by omega) ?_
      rw [get_bang _ 0 (by omega)]
      rw [get_bang s 0 h0] at hd
      have e : (s.extract 0 (s.size - 1)).data.toList = s.data.toList.take (s.size - 1) := by rw [Lib.extract_data]; rfl
      simp only [e, List.getElem_take]
      exact hd
    · rw [if_neg (by simpa using hc)]
      exact h0
theorem strip_all (s : ByteArray) (h : ∀ i, i < s.size → dg (s.get! i) = true) : (stripD s).toList.isEmpty = true := by
  unfold stripD
  rw [cutLeft_all s h]
  show (ByteArray.toList (cutRightF digits10 0 _)).isEmpty = true
  rw [ByteArray.toList_eq]
  rfl
theorem first_bad (s : ByteArray) : ∀ k, (∀ i, i < k → dg (s.get! i) = true) ∨ ∃ m, m < k ∧ dg (s.get! m) = false ∧ ∀ i, i < m → dg (s.get! i) = true
  | 0 => .inl fun _ h => absurd h (Nat.not_lt_zero _)
  | k + 1 => by
    rcases first_bad s k with h | ⟨m, h1, h2, h3⟩
    · cases hk : dg (s.get! k) with
      | true =>
        refine .inl fun i hi => ?_
        · rcases Nat.lt_or_ge i k with h4 | h4
          · exact h i h4
          · have e : i = k := by omega
            rw [e, hk]
      | false => exact .inr ⟨k, by omega, hk, h⟩
    · exact .inr ⟨m, by omega, h2, h3⟩
theorem strip_some (s : ByteArray) (m : Nat) (hm : m < s.size) (hd : dg (s.get! m) = false) (hb : ∀ i, i < m → dg (s.get! i) = true) : (stripD s).toList.isEmpty = false := by
  unfold stripD
  rw [cutLeft_some s m hm hd hb _ 0 (by omega) (by omega)]
  have hs : (s.extract m s.size).size = s.size - m := by simp [ByteArray.size_extract]
  have h0 : dg ((s.extract m s.size).get! 0) = false := by
    rw [get_bang _ 0 (by omega)]
    rw [get_bang s m hm] at hd
    have e : (s.extract m s.size).data.toList = (s.data.toList.drop m).take (s.size - m) := by simp [Lib.extract_data]
    simp only [e, List.getElem_take, List.getElem_drop, Nat.add_zero]
    exact hd
  have := cutRight_keeps (s.extract m s.size).size (s.extract m s.size) (by omega) h0
  rw [ByteArray.toList_eq]
  cases e : (cutRightF digits10 (s.extract m s.size).size (s.extract m s.size)).data.toList with
  | nil =>
    have h2 : (cutRightF digits10 (s.extract m s.size).size (s.extract m s.size)).size = (cutRightF digits10 (s.extract m s.size).size (s.extract m s.size)).data.toList.length := by simp
    rw [e, List.length_nil] at h2
    omega
  | cons a t => rfl
def satF (n : Nat) : List UInt8 → Nat
  | [] => n
  | c :: r => satF (min 256 (10 * n + (c.toNat - 48))) r
theorem sat_256 : ∀ (l : List UInt8), satF 256 l = 256
  | [] => rfl
  | c :: r => by
    unfold satF
    rw [Nat.min_eq_left (by omega)]
    exact sat_256 r
theorem parse_sat : ∀ (l : List UInt8) (acc : Nat), (∀ c ∈ l, dg c = true) → (∃ v, Lib.parseUint10 acc l = .ok v ∧ min 256 v = satF (min 256 acc) l) ∨ (Lib.parseUint10 acc l = .range ∧ satF (min 256 acc) l = 256)
  | [], acc, _ => .inl ⟨acc, rfl, rfl⟩
  | c :: r, acc, h => by
    have hc : 48 ≤ c.toNat ∧ c.toNat ≤ 57 := by simpa [dg] using h c (by simp)
    have hm : min 256 (10 * min 256 acc + (c.toNat - 48)) = min 256 (acc * 10 + (c.toNat - 48)) := by omega
    unfold Lib.parseUint10 satF
    rw [if_pos hc, hm]
    by_cases h1 : 1844674407370955162 ≤ acc
    · rw [if_pos h1]
      refine .inr ⟨rfl, ?_⟩
      rw [Nat.min_eq_left (by omega)]
      exact sat_256 r
    · rw [if_neg h1]
      by_cases h2 : 18446744073709551616 ≤ acc * 10 + (c.toNat - 48)
      · rw [if_pos h2]
        refine .inr ⟨rfl, ?_⟩
        rw [Nat.min_eq_left (by omega)]
        exact sat_256 r
      · rw [if_neg h2]
        exact parse_sat r _ (fun d hd => h d (by simp [hd]))
theorem atoi_sat (l : List UInt8) (hl : l ≠ []) (h : ∀ c ∈ l, dg c = true) : (∃ v : Nat, Lib.atoiAll l = .ok (v : Int) ∧ min 256 v = satF 0 l) ∨ (Lib.atoiAll l = .range ∧ satF 0 l = 256) := by
  match l, hl with
  | c :: r, _ =>
    have hc : 48 ≤ c.toNat ∧ c.toNat ≤ 57 := by simpa [dg] using h c (by simp)
    unfold Lib.atoiAll
    simp only
    rw [if_neg (by omega)]
    unfold Lib.parseMag
    rw [if_neg (by simp)]
    rcases parse_sat (c :: r) 0 h with ⟨v, hv, hs⟩ | ⟨hv, hs⟩
    · rw [hv]
      simp only
      have hn : ¬ c.toNat = 45 := by omega
      by_cases hb : 9223372036854775808 ≤ v
      · rw [if_pos ⟨hn, hb⟩]
        refine .inr ⟨rfl, ?_⟩
        simp only [Nat.min_zero] at hs
        omega
      · rw [if_neg (by omega), if_neg (by omega), if_neg hn]
        exact .inl ⟨v, rfl, by simpa using hs⟩
    · rw [hv]
      exact .inr ⟨rfl, by simpa using hs⟩
abbrev bs (s : ByteArray) : List UInt8 := s.data.toList
theorem bs_len (s : ByteArray) : (bs s).length = s.size := by simp
theorem bs_get (s : ByteArray) (i : Nat) (h : i < s.size) : (bs s)[i]? = some (s.get! i) := by
  rw [List.getElem?_eq_getElem (by rw [bs_len]; exact h), get_bang s i h]
theorem bs_ext (s : ByteArray) (a b : Nat) : bs (s.extract a b) = ((bs s).drop a).take (b - a) := Lib.extract_data s a b
theorem toList_nil (s : ByteArray) : s.toList = [] ↔ bs s = [] := by rw [ByteArray.toList_eq]
def dig (l : List UInt8) : List UInt8 := l.takeWhile dg
def refNum (l : List UInt8) : Option Nat × Nat :=
  (if dig l = [] ∨ (1 < (dig l).length ∧ (dig l).head? = some 48) then none else some (satF 0 (dig l)), (dig l).length)
def numOK (l : List UInt8) : Option Nat := if (dig l).length = l.length then (refNum l).1 else none
theorem dig_full {l : List UInt8} (h : (dig l).length = l.length) : dig l = l := by
  have := List.takeWhile_prefix dg (l := l)
  exact this.eq_of_length h
theorem tw_all : ∀ l : List UInt8, (∀ c ∈ l, dg c = true) → l.takeWhile dg = l
  | [], _ => rfl
  | c :: l, h => by rw [List.takeWhile_cons_of_pos (h c (by simp)), tw_all l (fun d hd => h d (by simp [hd]))]
theorem tw_len : ∀ l : List UInt8, l.takeWhile dg = l → ∀ c ∈ l, dg c = true
  | [], _, c, hc => by cases hc
  | a :: l, h, c, hc => by
    rw [List.takeWhile_cons] at h
    split at h
    · rename_i ha
      rcases List.mem_cons.1 hc with rfl | hc
      · exact ha
      · exact tw_len l (List.cons.inj h).2 c hc
    · cases h
theorem dig_all (l : List UInt8) : (dig l).length = l.length ↔ ∀ c ∈ l, dg c = true := by
  constructor
  · intro h
    exact tw_len l (dig_full h)
  · intro h
    have : dig l = l := tw_all l h
    rw [this]
theorem all_iff (s : ByteArray) : (∀ c ∈ bs s, dg c = true) ↔ ∀ i, i < s.size → dg (s.get! i) = true := by
  constructor
  · intro h i hi
    exact h _ (List.mem_of_getElem? (bs_get s i hi))
  · intro h c hc
    obtain ⟨i, hi⟩ := List.getElem?_of_mem hc
    have hlt : i < s.size := by
      rcases Nat.lt_or_ge i s.size with q | q
      · exact q
      · rw [List.getElem?_eq_none (by rw [bs_len]; exact q)] at hi; cases hi
    rw [bs_get s i hlt] at hi
    cases hi
    exact h i hlt
theorem number_eq (s : ByteArray) (hs : s.size ≤ 281474976710656) : lex_number.f s = some (match numOK (bs s) with | some v => ((v : Int), true) | none => (0, false)) := by
  unfold lex_number.f
  rw [if_pos hs]
  have hlen := bs_len s
  cases h0 : s.toList.isEmpty with
  | true =>
    have e : bs s = [] := by
      have : s.toList = [] := by simpa using h0
      exact (toList_nil s).1 this
    rw [if_pos rfl, e]
    rfl
  | false =>
    have hne : bs s ≠ [] := by
      intro e
      have : s.toList = [] := (toList_nil s).2 e
      rw [this] at h0; cases h0
    have hpos : 0 < s.size := by
      rw [← hlen]; exact List.length_pos_iff.2 hne
    rw [if_neg (by decide)]
    have hhead : (bs s).head? = some (s.get! 0) := by rw [List.head?_eq_getElem?, bs_get s 0 hpos]
    have hb0 : bt s 0 = ((s.get! 0).toNat : Int) := bt_nat s 0
    by_cases hall : ∀ i, i < s.size → dg (s.get! i) = true
    · have hfull : (dig (bs s)).length = (bs s).length := (dig_all _).2 ((all_iff s).2 hall)
      have hd := dig_full hfull
      unfold numOK refNum
      rw [if_pos hfull, hd]
      by_cases hz : 1 < s.size ∧ bt s 0 = 48
      · rw [if_pos hz, if_pos]
        refine .inr ⟨by rw [hlen]; exact hz.1, ?_⟩
        rw [hhead]
        congr 1
        apply UInt8.toNat_inj.1
        have := hz.2
        rw [hb0] at this
        show (s.get! 0).toNat = 48
        omega
      · rw [if_neg hz, strip_all s hall, if_pos rfl, if_neg]
        · rcases atoi_sat (bs s) hne ((all_iff s).2 hall) with ⟨v, hv, hm⟩ | ⟨hv, hm⟩
          · rw [hv]
            simp only
            congr 1
            rw [← hm]
            simp only [Prod.mk.injEq, and_true]
            split <;> omega
          · rw [hv, hm]
            rfl
        · intro q
          rcases q with q | ⟨q1, q2⟩
          · exact hne q
          · apply hz
            refine ⟨by rw [← hlen]; exact q1, ?_⟩
            rw [hhead] at q2
            have e := Option.some.inj q2
            rw [hb0, e]
            rfl
    · have hnf : ¬ (dig (bs s)).length = (bs s).length := fun q => hall ((all_iff s).1 ((dig_all _).1 q))
      unfold numOK
      rw [if_neg hnf]
      by_cases hz : 1 < s.size ∧ bt s 0 = 48
      · rw [if_pos hz]
      · rw [if_neg hz]
        rcases first_bad s s.size with h | ⟨m, h1, h2, h3⟩
        · exact absurd h hall
        · rw [strip_some s m h1 h2 h3, if_neg (by decide)]
def finN (s : ByteArray) (i n x : Nat) : Int × Int := if x = i then (-1, (x : Int)) else if i + 1 < x ∧ bN s i = 48 then (-1, (x : Int)) else ((n : Int), (x : Int))
theorem refnum_loop (s : ByteArray) (hs : s.size ≤ 140737488351232) (i : Nat) : ∀ (d p n : Nat), p + d = s.size → i ≤ p → n ≤ 256 →
    Ev (fun k => scantlingref03_number.l0 k s (i : Int) (n : Int) (p : Int)) (finN s i (satF n (dig ((bs s).drop p))) (p + (dig ((bs s).drop p)).length)) := by
  have stop : ∀ (p n : Nat), p ≤ s.size → i ≤ p → (if (p : Int) = (i : Int) then (some ((-1 : Int), (p : Int)) : Option (Int × Int)) else (if (p : Int) > (wrap64 ((i : Int) + 1)) then (if 0 ≤ (i : Int) then (if (i : Int) < (s.size : Int) then (if (bt s (i : Int)) = 48 then (some (-1, (p : Int))) else (some ((n : Int), (p : Int)))) else none) else none) else (some ((n : Int), (p : Int))))) = some (finN s i n p) := by
    intro p n hp hip
    unfold finN
    rw [w64 (by omega) (by omega), bt_nat]
    by_cases c : p = i
    · rw [if_pos (by omega), if_pos c]
    · rw [if_neg (by omega), if_neg c]
      by_cases c2 : i + 1 < p
      · rw [if_pos (by omega), if_pos (by omega), if_pos (by omega)]
        by_cases c3 : bN s i = 48
        · rw [if_pos (by omega), if_pos ⟨c2, c3⟩]
        · rw [if_neg (by omega), if_neg (fun q => c3 q.2)]
      · rw [if_neg (by omega), if_neg (fun q => c2 q.1)]
  intro d
  induction d with
  | zero =>
    intro p n h hip hn
    have e : (bs s).drop p = [] := List.drop_eq_nil_of_le (by rw [bs_len]; omega)
    rw [e]
    refine Ev.step (f := fun _ => some (finN s i n p)) (fun k => ?_) ⟨0, fun _ _ => rfl⟩
    rw [scantlingref03_number.l0, if_neg (by omega)]
    exact stop p n (by omega) hip
  | succ d ih =>
    intro p n h hip hn
    have hp : p < s.size := by omega
    have hl : p < (bs s).length := by rw [bs_len]; exact hp
    have hdrop : (bs s).drop p = s.get! p :: (bs s).drop (p + 1) := by
      rw [List.drop_eq_getElem_cons hl, get_bang s p hp]
    have hb := bN_lt s p
    have hbt : bt s (p : Int) = (bN s p : Int) := bt_nat s p
    cases hd : dg (s.get! p) with
    | true =>
      have hd' : 48 ≤ bN s p ∧ bN s p ≤ 57 := by simpa [dg, bN] using hd
      have e : dig ((bs s).drop p) = s.get! p :: dig ((bs s).drop (p + 1)) := by
        rw [hdrop]; unfold dig; rw [List.takeWhile_cons_of_pos hd]
      have hm := Aside0.mk (show mn 256 (wrap64 ((wrap64 ((wrap64 (10 * (n : Int))) + (wrap64 (bN s p : Int)))) - 48)) = ((min 256 (10 * n + (bN s p - 48)) : Nat) : Int) by
        rw [w64 (x := 10 * (n : Int)) (by omega) (by omega), w64 (x := (bN s p : Int)) (by omega) (by omega), w64 (x := 10 * (n : Int) + (bN s p : Int)) (by omega) (by omega), w64 (by omega) (by omega)]
        unfold mn
        split <;> omega)
      have hw := Aside0.mk (show wrap64 ((p : Int) + 1) = ((p + 1 : Nat) : Int) from w64 (by omega) (by omega))
      rw [e]
      have ih' := ih (p + 1) (min 256 (10 * n + (bN s p - 48))) (by omega) (by omega) (by omega)
      have e2 : satF n (s.get! p :: dig ((bs s).drop (p + 1))) = satF (min 256 (10 * n + (bN s p - 48))) (dig ((bs s).drop (p + 1))) := rfl
      rw [e2, List.length_cons, show p + ((dig ((bs s).drop (p + 1))).length + 1) = p + 1 + (dig ((bs s).drop (p + 1))).length by omega]
      refine Ev.step (fun k => ?_) ih'
      rw [scantlingref03_number.l0, if_pos (by omega), if_pos (by omega), hbt, if_pos (by omega), if_pos (by omega), hm.out, hw.out]
    | false =>
      have hd' : ¬ (48 ≤ bN s p ∧ bN s p ≤ 57) := by
        intro q
        have : dg (s.get! p) = true := by simpa [dg, bN] using q
        rw [hd] at this; cases this
      have e : dig ((bs s).drop p) = [] := by
        rw [hdrop]; unfold dig; rw [List.takeWhile_cons_of_neg (by rw [hd]; decide)]
      rw [e]
      refine Ev.step (f := fun _ => some (finN s i n p)) (fun k => ?_) ⟨0, fun _ _ => rfl⟩
      have st := stop p n (by omega) hip
      rw [scantlingref03_number.l0, if_pos (by omega), if_pos (by omega), hbt]
      by_cases c : 48 ≤ bN s p
      · rw [if_pos (by omega), if_neg (by omega)]
        exact st
      · rw [if_neg (by omega)]
        exact st
theorem refnum_eq (s : ByteArray) (hs : s.size ≤ 140737488351232) (i : Nat) (hi : i ≤ s.size) :
    Ev (fun k => scantlingref03_number.f k s (i : Int)) (match (refNum ((bs s).drop i)).1 with | some v => ((v : Int), ((i + (refNum ((bs s).drop i)).2 : Nat) : Int)) | none => (-1, ((i + (refNum ((bs s).drop i)).2 : Nat) : Int))) := by
  have h := refnum_loop s hs i (s.size - i) i 0 (by omega) (Nat.le_refl _) (by decide)
  have e : finN s i (satF 0 (dig ((bs s).drop i))) (i + (dig ((bs s).drop i)).length) = (match (refNum ((bs s).drop i)).1 with | some v => ((v : Int), ((i + (refNum ((bs s).drop i)).2 : Nat) : Int)) | none => (-1, ((i + (refNum ((bs s).drop i)).2 : Nat) : Int))) := by
    unfold finN refNum
    simp only
    by_cases c : dig ((bs s).drop i) = []
    · rw [if_pos (.inl c : dig ((bs s).drop i) = [] ∨ _), c]
      simp
    · have hpos : 0 < (dig ((bs s).drop i)).length := List.length_pos_iff.2 c
      rw [if_neg (by omega)]
      have hi2 : i < s.size := by
        rcases Nat.lt_or_ge i s.size with q | q
        · exact q
        · exfalso; apply c; rw [List.drop_eq_nil_of_le (by rw [bs_len]; exact q)]; rfl
      have hl : i < (bs s).length := by rw [bs_len]; exact hi2
      have hdrop : (bs s).drop i = s.get! i :: (bs s).drop (i + 1) := by
        rw [List.drop_eq_getElem_cons hl, get_bang s i hi2]
      have hhead : (dig ((bs s).drop i)).head? = some (s.get! i) := by
        rw [hdrop] at c ⊢
        unfold dig at c ⊢
        rw [List.takeWhile_cons] at c ⊢
        split at c
        · rename_i q; rw [if_pos q]; rfl
        · exact absurd rfl c
      have hiff : (i + 1 < i + (dig ((bs s).drop i)).length ∧ bN s i = 48) ↔ (1 < (dig ((bs s).drop i)).length ∧ (dig ((bs s).drop i)).head? = some 48) := by
        rw [hhead]
        constructor
        · rintro ⟨a, b⟩
          exact ⟨by omega, congrArg some (UInt8.toNat_inj.1 b)⟩
        · rintro ⟨a, b⟩
          exact ⟨by omega, by rw [bN, Option.some.inj b]; rfl⟩
      by_cases c2 : 1 < (dig ((bs s).drop i)).length ∧ (dig ((bs s).drop i)).head? = some 48
      · rw [if_pos (hiff.2 c2), if_pos (.inr c2)]
      · rw [if_neg (fun q => c2 (hiff.1 q)), if_neg (fun q => q.elim c c2)]
  rw [← e]
  exact h
end Go.Proofs.YtepnbnpgifpfbaaDoor.G
namespace Go.Proofs.YtepnbnpgifpfbaaDoor.G
open Go.RowKit Go.Proofs.YtepnbnpgifpfbaaDoorW.PrintWords Go.Proofs.YtepnbnpgifpfbaaDoorW.PrintMore
def ahead (c : UInt8) (l : List UInt8) : List UInt8 := l.takeWhile (· != c)
def from1 (c : UInt8) (l : List UInt8) : List UInt8 := l.dropWhile (· != c)
theorem ahead_from (c : UInt8) (l : List UInt8) : ahead c l ++ from1 c l = l := List.takeWhile_append_dropWhile
theorem from1_cases (c : UInt8) : ∀ l : List UInt8, (c ∉ l ∧ from1 c l = [] ∧ ahead c l = l) ∨ (c ∈ l ∧ ∃ t, from1 c l = c :: t ∧ l = ahead c l ++ c :: t)
  | [] => .inl ⟨by simp, rfl, rfl⟩
  | b :: l => by
    by_cases h : b = c
    · subst h
      refine .inr ⟨by simp, l, ?_, ?_⟩
      · unfold from1; rw [List.dropWhile_cons]; simp
      · unfold ahead; rw [List.takeWhile_cons]; simp
    · have hb : (b != c) = true := by simpa using h
      have e1 : ahead c (b :: l) = b :: ahead c l := by unfold ahead; rw [List.takeWhile_cons_of_pos (by simpa using h)]
      have e2 : from1 c (b :: l) = from1 c l := by unfold from1; rw [List.dropWhile_cons, if_pos hb]
      rcases from1_cases c l with ⟨h1, h2, h3⟩ | ⟨h1, t, h2, h3⟩
      · exact .inl ⟨by simp [h1, Ne.symm h], by rw [e2, h2], by rw [e1, h3]⟩
      · exact .inr ⟨by simp [h1], t, by rw [e2, h2], by rw [e1, List.cons_append, ← h3]⟩
theorem ahead_not (c : UInt8) : ∀ l : List UInt8, c ∉ ahead c l
  | [] => by simp [ahead]
  | b :: l => by
    unfold ahead
    rw [List.takeWhile_cons]
    split
    · rename_i h
      have := ahead_not c l
      unfold ahead at this
      simp only [List.mem_cons, not_or]
      exact ⟨fun e => by subst e; simp at h, this⟩
    · simp
theorem indexByte_eq (c : UInt8) : ∀ l : List UInt8, Lib.indexByte l c = if c ∈ l then ((ahead c l).length : Int) else -1
  | [] => by simp [Lib.indexByte]
  | b :: l => by
    unfold Lib.indexByte
    by_cases h : b = c
    · subst h
      have e : ahead b (b :: l) = [] := by unfold ahead; rw [List.takeWhile_cons]; simp
      rw [e]; simp
    · have e1 : ahead c (b :: l) = b :: ahead c l := by unfold ahead; rw [List.takeWhile_cons_of_pos (by simpa using h)]
      rw [if_neg (by simpa using h), indexByte_eq c l, e1]
      by_cases hm : c ∈ l
      · have hm2 : c ∈ b :: l := by simp [hm]
        have hne : (((ahead c l).length : Int) == -1) = false := by rw [beq_eq_false_iff_ne]; omega
        rw [if_pos hm, if_pos hm2, hne]
        simp
      · have hm2 : c ∉ b :: l := by simp [hm, Ne.symm h]
        rw [if_neg hm, if_neg hm2]
        rfl
theorem index_one (c : UInt8) : ∀ l : List UInt8, Lib.index l [c] = if c ∈ l then ((ahead c l).length : Int) else -1
  | [] => by simp [Lib.index]
  | b :: l => by
    unfold Lib.index
    by_cases h : b = c
    · subst h
      have e : ahead b (b :: l) = [] := by unfold ahead; rw [List.takeWhile_cons]; simp
      rw [e]; simp [List.isPrefixOf]
    · have e1 : ahead c (b :: l) = b :: ahead c l := by unfold ahead; rw [List.takeWhile_cons_of_pos (by simpa using h)]
      have hp : List.isPrefixOf [c] (b :: l) = false := by simp [List.isPrefixOf, Ne.symm h]
      rw [hp, index_one c l, e1]
      by_cases hm : c ∈ l
      · have hm2 : c ∈ b :: l := by simp [hm]
        have hne : (((ahead c l).length : Int) == -1) = false := by rw [beq_eq_false_iff_ne]; omega
        rw [if_pos hm, if_pos hm2, hne]
        simp
      · have hm2 : c ∉ b :: l := by simp [hm, Ne.symm h]
        rw [if_neg hm, if_neg hm2]
        rfl
theorem take_ahead (c : UInt8) (l : List UInt8) : l.take (ahead c l).length = ahead c l := by
  have h : (ahead c l ++ from1 c l).take (ahead c l).length = ahead c l := List.take_left' rfl
  rwa [ahead_from] at h
theorem drop_ahead (c : UInt8) (l : List UInt8) : l.drop ((ahead c l).length + 1) = (from1 c l).drop 1 := by
  have h : (ahead c l ++ from1 c l).drop ((ahead c l).length + 1) = (from1 c l).drop 1 := by rw [← List.drop_drop, List.drop_left' rfl]
  rwa [ahead_from] at h
theorem cut_one (c : UInt8) (l : List UInt8) : Lib.cut l [c] = (ahead c l, (from1 c l).drop 1, decide (c ∈ l)) := by
  unfold Lib.cut
  rw [index_one]
  by_cases hm : c ∈ l
  · rw [if_pos hm, if_pos (by omega), Int.toNat_natCast, take_ahead]
    have : [c].length = 1 := rfl
    rw [this, drop_ahead, decide_eq_true hm]
  · rw [if_neg hm, if_neg (by decide), decide_eq_false hm]
    rcases from1_cases c l with ⟨h1, h2, h3⟩ | ⟨h1, _⟩
    · rw [h2, h3]; rfl
    · exact absurd h1 hm
def pieces (c : UInt8) (l : List UInt8) : List (List UInt8) := Lib.splitK [c] 0 (l.count c) l
theorem pieces_eq (c : UInt8) (l : List UInt8) : pieces c l = ahead c l :: (match from1 c l with | [] => [] | _ :: t => pieces c t) := by
  unfold pieces
  rcases from1_cases c l with ⟨h1, h2, h3⟩ | ⟨h1, t, h2, h3⟩
  · have : l.count c = 0 := List.count_eq_zero.2 h1
    rw [this, h2, h3]
    rfl
  · have hc : l.count c = t.count c + 1 := by
      conv => lhs; rw [h3]
      rw [List.count_append, List.count_cons_self, List.count_eq_zero.2 (ahead_not c l)]
      omega
    have hi := index_one c l
    rw [if_pos h1] at hi
    rw [hc, h2]
    show Lib.splitK [c] 0 (t.count c + 1) l = _
    unfold Lib.splitK
    rw [hi]
    have hne : (((ahead c l).length : Int) == -1) = false := by rw [beq_eq_false_iff_ne]; omega
    rw [hne]
    have e1 : [c].length = 1 := rfl
    have e2 : (from1 c l).drop 1 = t := by rw [h2]; rfl
    simp only [Bool.false_eq_true, if_false, Int.toNat_natCast, Nat.add_zero, e1, take_ahead, drop_ahead, e2]
    congr 1
    cases t.count c <;> rfl
def bounds (lo hi : Nat) : Int × Int × Int := if 255 < hi ∨ hi < lo then (0, 0, 5) else ((lo : Int), (hi : Int), 0)
def repSpec (l : List UInt8) : Int × Int × Int :=
  match numOK (ahead 44 l), numOK ((from1 44 l).drop 1) with
  | some lo, some hi => bounds lo hi
  | _, _ => (0, 0, 4)
def refRep (c : List UInt8) : Int × Int × Int :=
  match (refNum c).1 with
  | none => (0, 0, 4)
  | some lo =>
    if c[(refNum c).2]? = some 44 then
      (match (refNum (c.drop ((refNum c).2 + 1))).1 with
        | none => (0, 0, 4)
        | some hi => if (refNum c).2 + 1 + (refNum (c.drop ((refNum c).2 + 1))).2 = c.length then bounds lo hi else (0, 0, 4))
    else (0, 0, 4)
theorem dig_append (f r : List UInt8) (hr : ∀ x t, r = x :: t → dg x = false) : dig (f ++ r) = dig f := by
  unfold dig
  rw [List.takeWhile_append]
  split
  · have e : r.takeWhile dg = [] := by
      cases r with
      | nil => rfl
      | cons x t => rw [List.takeWhile_cons_of_neg (by rw [hr x t rfl]; decide)]
    rename_i h
    have hp := List.takeWhile_prefix dg (l := f)
    rw [e, List.append_nil]
    exact (hp.eq_of_length h).symm
  · rfl
theorem dig_len_le (l : List UInt8) : (dig l).length ≤ l.length := (List.takeWhile_prefix dg (l := l)).length_le
theorem refNum_append (f r : List UInt8) (hr : ∀ x t, r = x :: t → dg x = false) : refNum (f ++ r) = refNum f := by
  unfold refNum
  rw [dig_append f r hr]
theorem rep_same (c : List UInt8) : refRep c = repSpec c := by
  unfold repSpec
  rcases from1_cases 44 c with ⟨h1, h2, h3⟩ | ⟨h1, b, h2, h3⟩
  · have e : numOK ((from1 44 c).drop 1) = none := by rw [h2]; rfl
    rw [e]
    have hno : ∀ i : Nat, c[i]? ≠ some 44 := fun i hi => h1 (List.mem_of_getElem? hi)
    unfold refRep
    cases (refNum c).1 with
    | none => cases numOK (ahead 44 c) <;> rfl
    | some lo =>
      simp only
      rw [if_neg (hno _)]
      cases numOK (ahead 44 c) <;> rfl
  · have e2 : (from1 44 c).drop 1 = b := by rw [h2]; rfl
    rw [e2]
    generalize hf : ahead 44 c = f at *
    have hn : 44 ∉ f := by rw [← hf]; exact ahead_not 44 c
    have hcomma : ∀ (x : UInt8) (t : List UInt8), (44 : UInt8) :: b = x :: t → dg x = false := by
      intro x t q
      rw [← (List.cons.inj q).1]; decide
    have hr : refNum c = refNum f := by rw [h3]; exact refNum_append f _ hcomma
    have hlen : c.length = f.length + (b.length + 1) := by rw [h3]; simp
    unfold refRep
    rw [hr]
    have hx : (refNum f).2 = (dig f).length := rfl
    by_cases hfull : (dig f).length = f.length
    · have hN : numOK f = (refNum f).1 := by unfold numOK; rw [if_pos hfull]
      rw [hN, hx, hfull]
      have hget : c[f.length]? = some 44 := by rw [h3, List.getElem?_append_right (Nat.le_refl _)]; simp
      have hdrop : c.drop (f.length + 1) = b := by
        rw [h3, ← List.drop_drop, List.drop_left' rfl]; rfl
      rw [hget, hdrop]
      cases (refNum f).1 with
      | none => rfl
      | some lo =>
        simp only [if_true]
        have hy : (refNum b).2 = (dig b).length := rfl
        have hNb : numOK b = if (dig b).length = b.length then (refNum b).1 else none := rfl
        rw [hNb, hy]
        have hle := dig_len_le b
        by_cases hb : (dig b).length = b.length
        · rw [if_pos hb, hlen]
          cases (refNum b).1 with
          | none => rfl
          | some hi => simp only; rw [if_pos (by omega)]
        · rw [if_neg hb, hlen]
          cases (refNum b).1 with
          | none => rfl
          | some hi => simp only; rw [if_neg (by omega)]
    · have hN : numOK f = none := by unfold numOK; rw [if_neg hfull]
      rw [hN]
      have hle := dig_len_le f
      have hne : c[(dig f).length]? ≠ some 44 := by
        intro q
        rw [h3, List.getElem?_append_left (by omega)] at q
        exact hn (List.mem_of_getElem? q)
      cases (refNum f).1 with
      | none => rfl
      | some lo => simp only [hx]; rw [if_neg hne]
def repTok (r : Int × Int × Int) : Int × Int × Int × Int × Int × Int × ByteArray × Int × Int × Int :=
  if r.2.2 = 0 then (7, 0, 0, 0, 0, 0, ⟨#[]⟩, r.1, r.2.1, 0) else (0, 0, 0, 0, 0, 0, ⟨#[]⟩, 0, 0, r.2.2)
theorem repeat_eq (t : ByteArray) (ht : t.size ≤ 4000) : Ev (fun k => lex_repeat.f k t) (repTok (repSpec (bs t))) := by
  have hlen := bs_len t
  have hc : strings_Cut.f t (⟨#[44]⟩ : ByteArray) = some (⟨(ahead 44 (bs t)).toArray⟩, ⟨((from1 44 (bs t)).drop 1).toArray⟩, decide (44 ∈ bs t)) := by
    unfold strings_Cut.f
    rw [if_pos (by omega)]
    have e : (⟨#[44]⟩ : ByteArray).data.toList = [44] := rfl
    rw [e, cut_one]
  have ha : (ahead 44 (bs t)).length ≤ t.size := by rw [← hlen]; exact (List.takeWhile_prefix _).length_le
  have hb : ((from1 44 (bs t)).drop 1).length ≤ t.size := by
    rw [← hlen, List.length_drop]
    have := (List.dropWhile_suffix (· != 44) (l := bs t)).length_le
    unfold from1
    omega
  have n1 : lex_number.f ⟨(ahead 44 (bs t)).toArray⟩ = _ := number_eq _ (by show (ahead 44 (bs t)).toArray.size ≤ _; simp; omega)
  have n2 : lex_number.f ⟨((from1 44 (bs t)).drop 1).toArray⟩ = _ := number_eq _ (by show ((from1 44 (bs t)).drop 1).toArray.size ≤ _; simp only [List.size_toArray]; omega)
  have e1 : bs ⟨(ahead 44 (bs t)).toArray⟩ = ahead 44 (bs t) := rfl
  have e2 : bs ⟨((from1 44 (bs t)).drop 1).toArray⟩ = (from1 44 (bs t)).drop 1 := rfl
  rw [e1] at n1
  rw [e2] at n2
  have main : ∀ k, lex_repeat.f (k + 1) t = some (repTok (repSpec (bs t))) := by
    intro k
    unfold lex_repeat.f
    rw [hc, Option.bind_some, n1, Option.bind_some, n2, Option.bind_some]
    unfold repSpec
    cases numOK (ahead 44 (bs t)) with
    | none => simp only [Bool.false_eq_true, if_false]; rw [lex_repeat.j0, if_pos rfl]; rfl
    | some lo =>
      simp only [if_true]
      cases numOK ((from1 44 (bs t)).drop 1) with
      | none => rw [lex_repeat.j0]; rfl
      | some hi =>
        simp only
        rw [lex_repeat.j0]
        simp only [Bool.not_true, Bool.false_eq_true, if_false]
        unfold bounds
        by_cases q1 : 255 < hi
        · rw [if_pos (by omega), if_pos (.inl q1)]; rfl
        · rw [if_neg (by omega)]
          by_cases q2 : hi < lo
          · rw [if_pos (by omega), if_pos (.inr q2)]; rfl
          · rw [if_neg (by omega), if_neg (by omega)]; rfl
  exact Ev.step main ⟨0, fun _ _ => rfl⟩
end Go.Proofs.YtepnbnpgifpfbaaDoor.G
namespace Go.Proofs.YtepnbnpgifpfbaaDoor.G
open Go.RowKit Go.Proofs.YtepnbnpgifpfbaaDoorW.PrintWords Go.Proofs.YtepnbnpgifpfbaaDoorW.PrintMore
def wordN (p : Nat → Bool) : Nat → Nat
  | 0 => 0
  | k + 1 => 2 ^ k * (p k).toNat + wordN p k
theorem wordN_lt (p : Nat → Bool) : ∀ k, wordN p k < 2 ^ k
  | 0 => by simp [wordN]
  | k + 1 => by
    have := wordN_lt p k
    unfold wordN
    cases p k <;> simp [Nat.pow_succ] <;> omega
theorem wordN_bit (p : Nat → Bool) : ∀ k i, (wordN p k).testBit i = (decide (i < k) && p i)
  | 0, i => by simp [wordN]
  | k + 1, i => by
    unfold wordN
    rw [Nat.testBit_two_pow_mul_add _ (wordN_lt p k), wordN_bit p k i]
    by_cases h : i < k
    · simp [h, Nat.lt_succ_of_lt h]
    · by_cases h2 : i = k
      · subst h2; cases p i <;> simp
      · have h3 : ¬ i < k + 1 := by omega
        obtain ⟨d, hd⟩ : ∃ d, i - k = d + 1 := ⟨i - k - 1, by omega⟩
        rw [if_neg h, hd]
        simp [h3]
        cases p k <;> simp [Nat.testBit_succ]
theorem wordN_ext (p : Nat → Bool) (k n : Nat) (h : ∀ i, n.testBit i = (decide (i < k) && p i)) : n = wordN p k :=
  Nat.eq_of_testBit_eq fun i => by rw [h, wordN_bit]
def word (p : Nat → Bool) : Int := (wordN p 64 : Nat)
theorem word_ext (p : Nat → Bool) (n : Nat) (h : ∀ i, n.testBit i = (decide (i < 64) && p i)) : (n : Int) = word p :=
  congrArg (fun n : Nat => (n : Int)) (wordN_ext p 64 n h)
theorem wrap_u64 (n : Int) : IntKind.u64.wrap n = n % 18446744073709551616 := by simp [IntKind.wrap, IntKind.bits, IntKind.signed]
theorem wraps_u64 (n : Int) (h₀ : 0 ≤ n) (h₁ : n < 2 ^ 64) : IntKind.u64.wrap n = n := by rw [wrap_u64]; omega
theorem word_or (p q : Nat → Bool) : bits .or .u64 (word p) (word q) = word fun i => p i || q i := by
  rw [word, word, (bits_nat .u64 64 (by decide) wraps_u64 _ _ (wordN_lt p 64) (wordN_lt q 64)).2]
  refine word_ext _ _ fun i => ?_
  rw [Nat.testBit_or, wordN_bit, wordN_bit]
  cases decide (i < 64) <;> simp
theorem bits_xor (a b : Nat) (ha : a < 2 ^ 64) (hb : b < 2 ^ 64) : bits .xor .u64 (a : Int) (b : Int) = ((a ^^^ b : Nat) : Int) := by
  have ha' : a % 2 ^ IntKind.u64.bits = a := Nat.mod_eq_of_lt ha
  have hb' : b % 2 ^ IntKind.u64.bits = b := Nat.mod_eq_of_lt hb
  have := Nat.xor_lt_two_pow ha hb
  simp only [bits, BitVec.ofInt_natCast, BitVec.toNat_xor, BitVec.toNat_ofNat, ha', hb']
  exact wraps_u64 _ (Int.natCast_nonneg _) (by exact_mod_cast this)
theorem wordN_true : wordN (fun _ => true) 64 = 18446744073709551615 := by decide
theorem word_not (p : Nat → Bool) : bits .xor .u64 IntKind.u64.max (word p) = word fun i => !p i := by
  have hm : IntKind.u64.max = ((wordN (fun _ => true) 64 : Nat) : Int) := by rw [wordN_true]; rfl
  rw [hm, word, bits_xor _ _ (wordN_lt _ 64) (wordN_lt p 64)]
  refine word_ext _ _ fun i => ?_
  rw [Nat.testBit_xor, wordN_bit, wordN_bit]
  cases decide (i < 64) <;> simp
theorem word_none : word (fun _ => false) = 0 := by decide
theorem word_congr {p q : Nat → Bool} (h : ∀ i, i < 64 → p i = q i) : word p = word q := by
  refine word_ext q _ fun i => ?_
  rw [wordN_bit]
  by_cases hi : i < 64
  · rw [h i hi]
  · simp [hi]
theorem orw_word (p : Nat → Bool) (c : Nat) : bits .or .u64 (word p) (IntKind.u64.wrap (2 ^ (c % 64))) = word fun i => p i || i == c % 64 := by
  have hc : c % 64 < 64 := Nat.mod_lt _ (by decide)
  have hlt : 2 ^ (c % 64) < 2 ^ 64 := Nat.pow_lt_pow_right (by decide) hc
  have h : IntKind.u64.wrap (2 ^ (c % 64)) = word fun i => i == c % 64 := by
    rw [wraps_u64 _ (Int.pow_nonneg (by decide)) (by exact_mod_cast hlt)]
    rw [← word_ext (fun i => i == c % 64) (2 ^ (c % 64)) fun i => ?_]
    · simp
    · rw [Nat.testBit_two_pow]
      by_cases hi : i < 64
      · simp only [hi, decide_true, Bool.true_and]
        exact decide_eq_decide.2 eq_comm
      · have : c % 64 ≠ i := by omega
        have h2 : i ≠ c % 64 := by omega
        simp [this, h2]
  rw [h, word_or]
def cls (p : Nat → Bool) : Int × Int × Int × Int := (word fun i => p i, word fun i => p (64 + i), word fun i => p (128 + i), word fun i => p (192 + i))
theorem cls_congr {p q : Nat → Bool} (h : ∀ i, i < 256 → p i = q i) : cls p = cls q := by
  unfold cls
  rw [word_congr (q := fun i => q i) fun i hi => h i (by omega), word_congr (p := fun i => p (64 + i)) (q := fun i => q (64 + i)) fun i hi => h (64 + i) (by omega),
    word_congr (p := fun i => p (128 + i)) (q := fun i => q (128 + i)) fun i hi => h (128 + i) (by omega), word_congr (p := fun i => p (192 + i)) (q := fun i => q (192 + i)) fun i hi => h (192 + i) (by omega)]
theorem cls_none : cls (fun _ => false) = (0, 0, 0, 0) := by
  unfold cls
  rw [word_none]
theorem join_cls (p q : Nat → Bool) : class_Join.f (cls p).1 (cls p).2.1 (cls p).2.2.1 (cls p).2.2.2 (cls q).1 (cls q).2.1 (cls q).2.2.1 (cls q).2.2.2 = some (cls fun i => p i || q i) := by
  simp only [class_Join.f, cls, word_or]
theorem not_cls (p : Nat → Bool) : class_Not.f (cls p).1 (cls p).2.1 (cls p).2.2.1 (cls p).2.2.2 = some (cls fun i => !p i) := by
  simp only [class_Not.f, cls, word_not]
theorem orw_w (p : Nat → Bool) (c : Nat) : orw (word p) c = word fun i => p i || i == c % 64 := orw_word p c
theorem add_cls (p : Nat → Bool) (c : Nat) : addw (cls p) c = cls fun i => p i || i == c := by
  have key : ∀ d b, b = 64 * d → (if c / 64 = d then orw (word fun i => p (b + i)) c else word fun i => p (b + i)) = word fun i => p (b + i) || b + i == c := by
    intro d b hb
    by_cases h : c / 64 = d
    · rw [if_pos h, orw_w]
      refine word_congr fun i hi => ?_
      congr 1
      rw [Bool.eq_iff_iff, beq_iff_eq, beq_iff_eq]
      omega
    · rw [if_neg h]
      refine word_congr fun i hi => ?_
      have : (b + i == c) = false := by rw [beq_eq_false_iff_ne]; omega
      rw [this, Bool.or_false]
  have k0 := key 0 0 rfl
  simp only [Nat.zero_add] at k0
  simp only [addw, cls]
  rw [k0, key 1 64 rfl, key 2 128 rfl, key 3 192 rfl]
theorem add_f (p : Nat → Bool) (c : Int) (h : 0 ≤ c ∧ c ≤ 255) : class_Add.f (cls p).1 (cls p).2.1 (cls p).2.2.1 (cls p).2.2.2 [c] = some (cls fun i => p i || i == c.toNat) := by
  simp only [class_Add.f]
  rw [if_pos h]
  exact congrArg some (add_cls p c.toNat)
theorem half_nat (n : Nat) (h : n < 18446744073709551616) : half (n : Int) = ((n / 2 : Nat) : Int) := by
  unfold half
  rw [Int.tdiv_eq_ediv_of_nonneg (by omega), wrap_u64]
  omega
theorem halves_nat (n : Nat) (h : n < 18446744073709551616) : ∀ k, halves k (n : Int) = ((n / 2 ^ k : Nat) : Int)
  | 0 => by simp [halves]
  | k + 1 => by
    have hk := Nat.div_le_self n (2 ^ k)
    unfold halves
    rw [halves_nat n h k, half_nat _ (by omega), Nat.div_div_eq_div_mul, Nat.pow_succ]
theorem bitAt_word (p : Nat → Bool) (k : Nat) (hk : k < 64) : bitAt (word p) k = p k := by
  have h := wordN_lt p 64
  have hb := wordN_bit p 64 k
  unfold bitAt word
  rw [halves_nat _ h]
  rw [Nat.testBit_eq_decide_div_mod_eq] at hb
  have e : (((wordN p 64 / 2 ^ k : Nat) : Int).tmod 2 == 1) = decide (wordN p 64 / 2 ^ k % 2 = 1) := by
    generalize wordN p 64 / 2 ^ k = m
    rw [Int.tmod_eq_emod_of_nonneg (Int.natCast_nonneg _), Bool.eq_iff_iff, beq_iff_eq, decide_eq_true_eq]
    omega
  rw [e, hb]
  simp [hk]
theorem has_cls (p : Nat → Bool) (c : Int) (h : 0 ≤ c ∧ c ≤ 255) : scantlingref01_Has.f (cls p).1 (cls p).2.1 (cls p).2.2.1 (cls p).2.2.2 c = some (p c.toNat) := by
  unfold scantlingref01_Has.f cls
  rw [if_pos h]
  congr 1
  have hm : c.toNat % 64 < 64 := Nat.mod_lt _ (by decide)
  simp only
  repeat' split
  all_goals rw [bitAt_word _ _ hm]
  all_goals first | (congr 1; omega)
theorem bitk_pow : ∀ k, k < 64 → bitk k = ((2 ^ k : Nat) : Int)
  | 0, _ => rfl
  | k + 1, h => by
    have hlt : 2 ^ (k + 1) < 2 ^ 64 := Nat.pow_lt_pow_right (by decide) h
    unfold bitk
    rw [bitk_pow k (by omega), wrap_u64]
    rw [Nat.pow_succ] at hlt ⊢
    omega
theorem accw_word (l : List Bool) (off : Nat) : ∀ k, k ≤ 64 → accw l off k = ((wordN (fun i => l.getD (off + i) false) k : Nat) : Int)
  | 0, _ => rfl
  | k + 1, h => by
    have h1 := wordN_lt (fun i => l.getD (off + i) false) (k + 1)
    have hlt : 2 ^ (k + 1) ≤ 2 ^ 64 := Nat.pow_le_pow_right (by decide) h
    unfold accw wordN
    unfold wordN at h1
    rw [accw_word l off k (by omega)]
    cases hb : l.getD (off + k) false with
    | true =>
      rw [hb] at h1
      rw [if_pos rfl, bitk_pow k (by omega), wrap_u64]
      simp only [Bool.toNat_true, Nat.mul_one] at h1 ⊢
      omega
    | false =>
      rw [if_neg (by decide)]
      simp
theorem of_cls (l : List Bool) (h : 256 ≤ l.length) : scantlingref01_Of.f l = some (cls fun i => l.getD i false) := by
  unfold scantlingref01_Of.f cls
  rw [if_pos h, accw_word l 0 64 (by decide), accw_word l 64 64 (by decide), accw_word l 128 64 (by decide), accw_word l 192 64 (by decide)]
  simp only [Nat.zero_add, word]
theorem wi {x : Int} (h : -9223372036854775808 ≤ x) (h' : x < 9223372036854775808) : wrap64 x = x := by unfold wrap64; omega
def rowP (a b : Nat) (i : Nat) : Bool := decide (a ≤ i) && decide (i ≤ b)
theorem of_loop (a b : Nat) : ∀ (d i : Nat), i + d = 256 → Ev (fun k => class_Of.l0 k (a : Int) (b : Int) (i : Int) (cls fun j => decide (j < i) && rowP a b j).1 (cls fun j => decide (j < i) && rowP a b j).2.1 (cls fun j => decide (j < i) && rowP a b j).2.2.1 (cls fun j => decide (j < i) && rowP a b j).2.2.2) (cls (rowP a b))
  | 0, i, h => by
    refine Ev.step (f := fun _ => some (cls (rowP a b))) (fun k => ?_) ⟨0, fun _ _ => rfl⟩
    rw [class_Of.l0, if_neg (by omega)]
    have e : cls (fun j => decide (j < i) && rowP a b j) = cls (rowP a b) := cls_congr fun j hj => by rw [decide_eq_true (by omega : j < i), Bool.true_and]
    rw [e]
  | d + 1, i, h => by
    have ih := of_loop a b d (i + 1) (by omega)
    have hm : (i : Int) % 256 = i := by omega
    have hw : wrap64 ((i : Int) + 1) = ((i + 1 : Nat) : Int) := wi (by omega) (by omega)
    refine Ev.step (fun k => ?_) ih
    rw [class_Of.l0, if_pos (by omega), hm, hw]
    by_cases h1 : a ≤ i ∧ i ≤ b
    · rw [if_pos (by omega), if_pos (by omega), add_f _ _ (by omega), Option.bind_some]
      have e : cls (fun j => (decide (j < i) && rowP a b j) || j == ((i : Int)).toNat) = cls (fun j => decide (j < i + 1) && rowP a b j) := by
        refine cls_congr fun j hj => ?_
        simp only [rowP]
        rw [Bool.eq_iff_iff]
        simp only [Bool.or_eq_true, Bool.and_eq_true, decide_eq_true_eq, beq_iff_eq]
        omega
      rw [e]
    · have e : cls (fun j => decide (j < i) && rowP a b j) = cls (fun j => decide (j < i + 1) && rowP a b j) := by
        refine cls_congr fun j hj => ?_
        simp only [rowP]
        rw [Bool.eq_iff_iff]
        simp only [Bool.and_eq_true, decide_eq_true_eq]
        omega
      rw [e]
      by_cases h2 : a ≤ i
      · rw [if_pos (by omega), if_neg (by omega)]
      · rw [if_neg (by omega)]
theorem of_eq (a b : Nat) : Ev (fun k => class_Of.f k (a : Int) (b : Int)) (cls (rowP a b)) := by
  have h := of_loop a b 256 0 rfl
  have e : cls (fun j => decide (j < 0) && rowP a b j) = (0, 0, 0, 0) := by
    rw [← cls_none]
    exact cls_congr fun j _ => by simp
  rw [e] at h
  exact h
theorem rowl_loop (a b : Nat) (hb : b ≤ 255) : ∀ (d i : Nat) (l : List Bool), i + d = b + 1 → l.length = 256 → (∀ j, j < 256 → l.getD j false = (decide (j < i) && rowP a b j)) → a ≤ i →
    Ev (fun k => scantlingref01_Row.l0 k (b : Int) l (i : Int)) (cls (rowP a b))
  | 0, i, l, h, hl, hg, ha => by
    refine Ev.step (f := fun _ => some (cls (rowP a b))) (fun k => ?_) ⟨0, fun _ _ => rfl⟩
    rw [scantlingref01_Row.l0, wi (by omega) (by omega), if_neg (by omega), of_cls _ (by omega), Option.bind_some]
    have e : cls (fun j => l.getD j false) = cls (rowP a b) := cls_congr fun j hj => by
      rw [hg j hj]
      simp only [rowP]
      rw [Bool.eq_iff_iff]
      simp only [Bool.and_eq_true, decide_eq_true_eq]
      omega
    rw [e]
  | d + 1, i, l, h, hl, hg, ha => by
    have hw : wrap64 ((i : Int) + 1) = ((i + 1 : Nat) : Int) := wi (by omega) (by omega)
    refine Ev.step (fun k => ?_) (rowl_loop a b hb d (i + 1) (l.set i true) (by omega) (by simp [hl]) (fun j hj => ?_) (by omega))
    · rw [scantlingref01_Row.l0, wi (by omega) (by omega), if_pos (by omega), if_pos (by omega), if_pos (by omega), hw, Int.toNat_natCast]
    · rw [List.getD_eq_getElem?_getD, List.getElem?_set]
      by_cases hij : i = j
      · subst hij
        rw [if_pos rfl, if_pos (by omega)]
        simp only [rowP, Option.getD_some]
        symm
        rw [Bool.and_eq_true, Bool.and_eq_true]
        simp only [decide_eq_true_eq]
        omega
      · rw [if_neg hij, ← List.getD_eq_getElem?_getD, hg j hj]
        simp only [rowP]
        rw [Bool.eq_iff_iff]
        simp only [Bool.and_eq_true, decide_eq_true_eq]
        omega
theorem row_eq (a b : Nat) (hb : b ≤ 255) (ha : a ≤ 255) : Ev (fun k => scantlingref01_Row.f k (a : Int) (b : Int)) (cls (rowP a b)) := by
  unfold scantlingref01_Row.f
  simp only [if_pos (show (256 : Int) ≤ 281474976710656 by decide), if_pos (show (256 : Nat) ≤ 281474976710656 by decide), wi (show (-9223372036854775808 : Int) ≤ (a : Int) by omega) (by omega)]
  have hrep : ∀ j, (List.replicate 256 false).getD j false = false := by
    intro j
    rw [List.getD_eq_getElem?_getD, List.getElem?_replicate]
    split <;> rfl
  by_cases hab : a ≤ b + 1
  · refine rowl_loop a b hb (b + 1 - a) a _ (by omega) List.length_replicate (fun j hj => ?_) (Nat.le_refl _)
    rw [hrep]
    symm
    rw [Bool.and_eq_false_iff]
    simp only [rowP, Bool.and_eq_false_iff, decide_eq_false_iff_not]
    omega
  · refine Ev.step (f := fun _ => some (cls (rowP a b))) (fun k => ?_) ⟨0, fun _ _ => rfl⟩
    rw [scantlingref01_Row.l0, wi (by omega) (by omega), if_neg (by omega), of_cls _ (by rw [List.length_replicate]; decide), Option.bind_some]
    have e : cls (fun j => (List.replicate 256 false).getD j false) = cls (rowP a b) := cls_congr fun j hj => by
      rw [hrep]
      symm
      simp only [rowP, Bool.and_eq_false_iff, decide_eq_false_iff_not]
      omega
    rw [e]
theorem list_loop (p : Nat → Bool) : ∀ (d i : Nat) (l : List Bool), i + d = 256 → l.length = i → (∀ j, j < i → l.getD j false = p j) →
    ∃ L : List Bool, L.length = 256 ∧ (∀ j, j < 256 → L.getD j false = p j) ∧ Ev (fun k => scantlingref01_List.l0 k l (i : Int) (cls p).1 (cls p).2.1 (cls p).2.2.1 (cls p).2.2.2) L
  | 0, i, l, h, hl, hg => ⟨l, by omega, fun j hj => hg j (by omega), Ev.step (f := fun _ => some l) (fun k => by rw [scantlingref01_List.l0, if_neg (by omega)]) ⟨0, fun _ _ => rfl⟩⟩
  | d + 1, i, l, h, hl, hg => by
    have hm : (i : Int) % 256 = i := by omega
    have hw : wrap64 ((i : Int) + 1) = ((i + 1 : Nat) : Int) := wi (by omega) (by omega)
    obtain ⟨L, h1, h2, h3⟩ := list_loop p d (i + 1) (l ++ [p i]) (by omega) (by simp [hl]) (fun j hj => by
      rw [List.getD_eq_getElem?_getD]
      by_cases e : j < i
      · rw [List.getElem?_append_left (by omega), ← List.getD_eq_getElem?_getD, hg j e]
      · have : j = l.length := by omega
        rw [this, List.getElem?_append_right (Nat.le_refl _)]
        simp [hl])
    refine ⟨L, h1, h2, Ev.step (fun k => ?_) h3⟩
    rw [scantlingref01_List.l0, if_pos (by omega), hm, has_cls _ _ (by omega), Option.bind_some, if_pos (by omega), hw, Int.toNat_natCast]
theorem list_eq (p : Nat → Bool) : ∃ L : List Bool, L.length = 256 ∧ (∀ j, j < 256 → L.getD j false = p j) ∧ Ev (fun k => scantlingref01_List.f k (cls p).1 (cls p).2.1 (cls p).2.2.1 (cls p).2.2.2) L :=
  list_loop p 256 0 [] rfl rfl (fun j hj => absurd hj (Nat.not_lt_zero _))
theorem rdOf_nat (l : List Bool) (i : Nat) : rdOf false l (i : Int) = l.getD i false := by unfold rdOf; rw [Int.toNat_natCast]
theorem getD_set (l : List Bool) (i j : Nat) (v : Bool) (hi : i < l.length) : (l.set i v).getD j false = if i = j then v else l.getD j false := by
  rw [List.getD_eq_getElem?_getD, List.getElem?_set]
  by_cases hij : i = j
  · rw [if_pos hij, if_pos hi, if_pos hij]; rfl
  · rw [if_neg hij, if_neg hij, ← List.getD_eq_getElem?_getD]
theorem notl_loop (p : Nat → Bool) : ∀ (d i : Nat) (l : List Bool), i + d = 256 → l.length = 256 → (∀ j, j < 256 → l.getD j false = if j < i then !p j else p j) →
    Ev (fun k => scantlingref01_Not.l0 k l (i : Int)) (cls fun j => !p j)
  | 0, i, l, h, hl, hg => by
    refine Ev.step (f := fun _ => some (cls fun j => !p j)) (fun k => ?_) ⟨0, fun _ _ => rfl⟩
    rw [scantlingref01_Not.l0, if_neg (by omega), of_cls _ (by omega), Option.bind_some]
    rw [cls_congr (q := fun j => !p j) fun j hj => by rw [hg j hj, if_pos (by omega)]]
  | d + 1, i, l, h, hl, hg => by
    have hw : wrap64 ((i : Int) + 1) = ((i + 1 : Nat) : Int) := wi (by omega) (by omega)
    refine Ev.step (fun k => ?_) (notl_loop p d (i + 1) (l.set i (!p i)) (by omega) (by simp [hl]) (fun j hj => ?_))
    · rw [scantlingref01_Not.l0, if_pos (by omega), if_pos (by omega), if_pos (by omega), hw, Int.toNat_natCast, rdOf_nat, hg i (by omega), if_neg (by omega)]
    · rw [getD_set _ _ _ _ (by omega), hg j hj]
      by_cases e : i = j
      · subst e; rw [if_pos rfl, if_pos (by omega)]
      · rw [if_neg e]
        by_cases e2 : j < i
        · rw [if_pos e2, if_pos (by omega)]
        · rw [if_neg e2, if_neg (by omega)]
theorem refnot_eq (p : Nat → Bool) : Ev (fun k => scantlingref01_Not.f k (cls p).1 (cls p).2.1 (cls p).2.2.1 (cls p).2.2.2) (cls fun j => !p j) := by
  obtain ⟨L, h1, h2, h3⟩ := list_eq p
  exact Ev.bind h3 (notl_loop p 256 0 L rfl h1 (fun j hj => by rw [h2 j hj, if_neg (by omega)]))
theorem joinl_loop (p q : Nat → Bool) (M : List Bool) (hM : M.length = 256) (hq : ∀ j, j < 256 → M.getD j false = q j) : ∀ (d i : Nat) (l : List Bool), i + d = 256 → l.length = 256 → (∀ j, j < 256 → l.getD j false = if j < i then p j || q j else p j) →
    Ev (fun k => scantlingref01_Join.l0 k l M (i : Int)) (cls fun j => p j || q j)
  | 0, i, l, h, hl, hg => by
    refine Ev.step (f := fun _ => some (cls fun j => p j || q j)) (fun k => ?_) ⟨0, fun _ _ => rfl⟩
    rw [scantlingref01_Join.l0, if_neg (by omega), of_cls _ (by omega), Option.bind_some]
    rw [cls_congr (q := fun j => p j || q j) fun j hj => by rw [hg j hj, if_pos (by omega)]]
  | d + 1, i, l, h, hl, hg => by
    have hw : wrap64 ((i : Int) + 1) = ((i + 1 : Nat) : Int) := wi (by omega) (by omega)
    refine Ev.step (fun k => ?_) (joinl_loop p q M hM hq d (i + 1) (l.set i (p i || q i)) (by omega) (by simp [hl]) (fun j hj => ?_))
    · have hgi : l.getD i false = p i := by rw [hg i (by omega), if_neg (by omega)]
      rw [scantlingref01_Join.l0, if_pos (by omega), if_pos (by omega), if_pos (by omega), hw, Int.toNat_natCast, rdOf_nat, hgi]
      cases hp : p i with
      | true => rw [if_pos rfl, Bool.true_or]
      | false => rw [if_neg (by decide), if_pos (by omega), rdOf_nat, hq i (by omega), Bool.false_or]
    · rw [getD_set _ _ _ _ (by omega), hg j hj]
      by_cases e : i = j
      · subst e; rw [if_pos rfl, if_pos (by omega)]
      · rw [if_neg e]
        by_cases e2 : j < i
        · rw [if_pos e2, if_pos (by omega)]
        · rw [if_neg e2, if_neg (by omega)]
theorem refjoin_eq (p q : Nat → Bool) : Ev (fun k => scantlingref01_Join.f k (cls p).1 (cls p).2.1 (cls p).2.2.1 (cls p).2.2.2 (cls q).1 (cls q).2.1 (cls q).2.2.1 (cls q).2.2.2) (cls fun j => p j || q j) := by
  obtain ⟨L, h1, h2, h3⟩ := list_eq p
  obtain ⟨M, m1, m2, m3⟩ := list_eq q
  exact Ev.bind h3 (Ev.bind m3 (joinl_loop p q M m1 m2 256 0 L rfl h1 (fun j hj => by rw [h2 j hj, if_neg (by omega)])))
end Go.Proofs.YtepnbnpgifpfbaaDoor.G
namespace Go.Proofs.YtepnbnpgifpfbaaDoor.G
open Go.RowKit Go.Proofs.YtepnbnpgifpfbaaDoorW.PrintWords Go.Proofs.YtepnbnpgifpfbaaDoorW.PrintMore
def hexV (b : UInt8) : Option Nat := if 48 ≤ b.toNat ∧ b.toNat ≤ 57 then some (b.toNat - 48) else if 97 ≤ b.toNat ∧ b.toNat ≤ 102 then some (b.toNat - 87) else none
theorem hexV_lt {b : UInt8} {v : Nat} (h : hexV b = some v) : v < 16 := by
  unfold hexV at h
  split at h
  · cases h; omega
  · split at h
    · cases h; omega
    · cases h
theorem hexV_ne {b : UInt8} {v : Nat} (h : hexV b = some v) : b ≠ 44 ∧ b ≠ 45 := by
  constructor
  · intro e; subst e; rw [show hexV 44 = none from rfl] at h; cases h
  · intro e; subst e; rw [show hexV 45 = none from rfl] at h; cases h
def pairL : List UInt8 → Option Nat
  | a :: b :: _ => (match hexV a, hexV b with | some x, some y => some (16 * x + y) | _, _ => none)
  | _ => none
def hexS : List UInt8 → Option Nat
  | [a, b] => pairL [a, b]
  | _ => none
theorem pair_lt {l : List UInt8} {v : Nat} (h : pairL l = some v) : v < 256 := by
  match l, h with
  | a :: b :: t, h =>
    simp only [pairL] at h
    split at h
    · rename_i x y hx hy
      have := hexV_lt hx
      have := hexV_lt hy
      cases h
      omega
    · cases h
def rowS (l : List UInt8) : Option (Nat × Nat) :=
  if 45 ∈ l then (match hexS (ahead 45 l), hexS ((from1 45 l).drop 1) with | some a, some b => if a ≤ b then some (a, b) else none | _, _ => none)
  else (match hexS l with | some a => some (a, a) | none => none)
def addR (p : Nat → Bool) (a b : Nat) : Nat → Bool := fun i => p i || rowP a b i
def foldP : List (List UInt8) → (Nat → Bool) → Option (Nat → Bool)
  | [], p => some p
  | l :: ls, p => match rowS l with | none => none | some (a, b) => foldP ls (addR p a b)
mutual
def refRun : Nat → List UInt8 → (Nat → Bool) → Option (Nat → Bool)
  | 0, _, _ => none
  | _ + 1, [], p => some p
  | f + 1, x :: l, p =>
    match pairL (x :: l) with
    | none => none
    | some a =>
      if (l.drop 1).head? = some 45 then
        (match pairL (l.drop 2) with
          | none => none
          | some b => if a ≤ b then refNext f (l.drop 4) (addR p a b) else none)
      else refNext f (l.drop 1) (addR p a a)
def refNext : Nat → List UInt8 → (Nat → Bool) → Option (Nat → Bool)
  | _, [], q => some q
  | 0, _ :: _, _ => none
  | f + 1, x :: u, q => if x = 44 ∧ u ≠ [] then refRun f u q else none
end
theorem ahead_cons_ne {c b : UInt8} (l : List UInt8) (h : b ≠ c) : ahead c (b :: l) = b :: ahead c l := by unfold ahead; rw [List.takeWhile_cons_of_pos (by simpa using h)]
theorem ahead_cons_eq (c : UInt8) (l : List UInt8) : ahead c (c :: l) = [] := by unfold ahead; rw [List.takeWhile_cons]; simp
theorem from1_cons_ne {c b : UInt8} (l : List UInt8) (h : b ≠ c) : from1 c (b :: l) = from1 c l := by unfold from1; rw [List.dropWhile_cons]; simp [h]
theorem from1_cons_eq (c : UInt8) (l : List UInt8) : from1 c (c :: l) = c :: l := by unfold from1; rw [List.dropWhile_cons]; simp
theorem row_no_short : ∀ l : List UInt8, l.length ≤ 1 → rowS l = none
  | [], _ => rfl
  | [x], _ => by
    unfold rowS
    split
    · by_cases h : x = 45
      · subst h; rfl
      · rw [ahead_cons_ne _ h]; rfl
    · rfl
theorem row_no_pair (x y : UInt8) (t : List UInt8) (h : pairL [x, y] = none) : rowS (x :: y :: t) = none := by
  have front : ∀ u : List UInt8, hexS (x :: y :: u) = none := by
    intro u
    cases u with
    | nil => exact h
    | cons c u => rfl
  unfold rowS
  split
  · by_cases hx : x = 45
    · subst hx; rw [ahead_cons_eq]; rfl
    · rw [ahead_cons_ne _ hx]
      by_cases hy : y = 45
      · subst hy; rw [ahead_cons_eq]; rfl
      · rw [ahead_cons_ne _ hy, front]
  · rw [front]
theorem row_no_long (x y v : UInt8) (t : List UInt8) (hx : x ≠ 45) (hy : y ≠ 45) (hv : v ≠ 45) : rowS (x :: y :: v :: t) = none := by
  unfold rowS
  split
  · rw [ahead_cons_ne _ hx, ahead_cons_ne _ hy, ahead_cons_ne _ hv]; rfl
  · rfl
theorem pair_cons (x y : UInt8) (t : List UInt8) : pairL (x :: y :: t) = pairL [x, y] := rfl
def restRun (f : Nat) (R : List UInt8) (q : Nat → Bool) : Option (Nat → Bool) := match R with | [] => some q | _ :: t => if t ≠ [] then refRun f t q else none
theorem next_rest (f : Nat) (u : List UInt8) (q : Nat → Bool) (h : ahead 44 u = []) : refNext (f + 1) u q = restRun f (from1 44 u) q := by
  cases u with
  | nil => rfl
  | cons v u =>
    by_cases hv : v = 44
    · subst hv
      rw [from1_cons_eq]
      simp only [refNext, restRun, true_and]
    · rw [ahead_cons_ne _ hv] at h; cases h
theorem next_no (f : Nat) (v : UInt8) (u : List UInt8) (q : Nat → Bool) (h : v ≠ 44) : refNext (f + 1) (v :: u) q = none := by
  simp only [refNext]
  rw [if_neg (fun e => h e.1)]
theorem run_step (f : Nat) (l : List UInt8) (hl : l ≠ []) (p : Nat → Bool) :
    refRun (f + 2) l p = (match rowS (ahead 44 l) with | none => none | some (a, b) => restRun f (from1 44 l) (addR p a b)) := by
  match l, hl with
  | [x], _ =>
    have e : rowS (ahead 44 [x]) = none := row_no_short _ ((List.takeWhile_prefix _).length_le)
    rw [e]
    rfl
  | x :: y :: t, _ =>
    simp only [refRun, List.drop_one, List.tail_cons, List.drop_succ_cons, List.drop_zero]
    rw [pair_cons]
    cases hp : pairL [x, y] with
    | none =>
      have e : rowS (ahead 44 (x :: y :: t)) = none := by
        by_cases hx : x = 44
        · subst hx; rw [ahead_cons_eq]; rfl
        · rw [ahead_cons_ne _ hx]
          by_cases hy : y = 44
          · subst hy; rw [ahead_cons_eq]; exact row_no_short _ (by simp)
          · rw [ahead_cons_ne _ hy]; exact row_no_pair x y _ hp
      rw [e]
    | some a =>
      have hxy : (x ≠ 44 ∧ x ≠ 45) ∧ (y ≠ 44 ∧ y ≠ 45) := by
        simp only [pairL] at hp
        split at hp
        · rename_i i j h1 h2; exact ⟨hexV_ne h1, hexV_ne h2⟩
        · cases hp
      obtain ⟨⟨hx4, hx5⟩, hy4, hy5⟩ := hxy
      rw [ahead_cons_ne _ hx4, ahead_cons_ne _ hy4, from1_cons_ne _ hx4, from1_cons_ne _ hy4]
      have plain : ahead 44 t = [] → rowS (x :: y :: ahead 44 t) = some (a, a) := by
        intro e
        rw [e]
        unfold rowS
        rw [if_neg (by simp [Ne.symm hx5, Ne.symm hy5])]
        show (match pairL [x, y] with | some a => some (a, a) | none => none) = _
        rw [hp]
      simp only
      cases t with
      | nil =>
        rw [plain rfl]
        rfl
      | cons v t =>
        by_cases hv4 : v = 44
        · subst hv4
          have e : ahead 44 (44 :: t) = [] := ahead_cons_eq 44 t
          rw [plain e]
          rw [if_neg (by simp)]
          exact next_rest f _ _ e
        · rw [ahead_cons_ne _ hv4, from1_cons_ne _ hv4]
          by_cases hv5 : v = 45
          · subst hv5
            have hrow : rowS (x :: y :: 45 :: ahead 44 t) = (match hexS (ahead 44 t) with | some b => if a ≤ b then some (a, b) else none | none => none) := by
              unfold rowS
              rw [if_pos (by simp), ahead_cons_ne _ hx5, ahead_cons_ne _ hy5, ahead_cons_eq, from1_cons_ne _ hx5, from1_cons_ne _ hy5, from1_cons_eq]
              show (match pairL [x, y], hexS (ahead 44 t) with | some a, some b => if a ≤ b then some (a, b) else none | _, _ => none) = _
              rw [hp]
              cases hexS (ahead 44 t) <;> rfl
            rw [hrow]
            simp only [List.head?_cons, if_true, List.tail_cons, List.drop_succ_cons]
            match t with
            | [] => rfl
            | [z] =>
              have e : hexS (ahead 44 [z]) = none := by
                by_cases hz : z = 44
                · subst hz; rw [ahead_cons_eq]; rfl
                · rw [ahead_cons_ne _ hz]; rfl
              rw [e]
              rfl
            | z :: w :: u =>
              rw [pair_cons]
              cases hq : pairL [z, w] with
              | none =>
                have e : hexS (ahead 44 (z :: w :: u)) = none := by
                  by_cases hz : z = 44
                  · subst hz; rw [ahead_cons_eq]; rfl
                  · rw [ahead_cons_ne _ hz]
                    by_cases hw : w = 44
                    · subst hw; rw [ahead_cons_eq]; rfl
                    · rw [ahead_cons_ne _ hw]
                      cases ahead 44 u with
                      | nil => exact hq
                      | cons c u => rfl
                rw [e]
              | some b =>
                have hzw : z ≠ 44 ∧ w ≠ 44 := by
                  simp only [pairL] at hq
                  split at hq
                  · rename_i i j h1 h2; exact ⟨(hexV_ne h1).1, (hexV_ne h2).1⟩
                  · cases hq
                rw [ahead_cons_ne _ hzw.1, ahead_cons_ne _ hzw.2, from1_cons_ne _ hzw.1, from1_cons_ne _ hzw.2]
                simp only [List.drop_succ_cons, List.drop_zero]
                cases hu : ahead 44 u with
                | nil =>
                  have e : hexS [z, w] = some b := hq
                  rw [e]
                  simp only
                  by_cases hab : a ≤ b
                  · rw [if_pos hab, if_pos hab]
                    exact next_rest f u _ hu
                  · rw [if_neg hab, if_neg hab]
                | cons c r =>
                  have e : hexS (z :: w :: c :: r) = none := rfl
                  rw [e]
                  cases u with
                  | nil => cases hu
                  | cons c' u' =>
                    have hc : c' ≠ 44 := by
                      intro q; subst q; rw [ahead_cons_eq] at hu; cases hu
                    rw [next_no f c' u' _ hc]
                    simp
          · rw [row_no_long x y v _ hx5 hy5 hv5]
            have : (v :: t).head? ≠ some 45 := by simpa using hv5
            rw [if_neg this, next_no f v t _ hv4]
theorem run_fold : ∀ (n : Nat) (l : List UInt8) (f : Nat) (p : Nat → Bool), l.length ≤ n → l ≠ [] → 2 * l.length ≤ f → refRun f l p = foldP (pieces 44 l) p
  | 0, l, f, p, hn, hl, hf => absurd (List.eq_nil_of_length_eq_zero (by omega)) hl
  | n + 1, l, f, p, hn, hl, hf => by
    have hpos : 0 < l.length := List.length_pos_iff.2 hl
    obtain ⟨f, rfl⟩ : ∃ g, f = g + 2 := ⟨f - 2, by omega⟩
    rw [run_step f l hl p, pieces_eq]
    simp only [foldP]
    cases rowS (ahead 44 l) with
    | none => rfl
    | some ab =>
      obtain ⟨a, b⟩ := ab
      simp only
      rcases from1_cases 44 l with ⟨h1, h2, h3⟩ | ⟨h1, t, h2, h3⟩
      · rw [h2]; rfl
      · rw [h2]
        simp only [restRun]
        have hlen : t.length < l.length := by
          have := congrArg List.length h3
          rw [List.length_append, List.length_cons] at this
          omega
        by_cases ht : t = []
        · subst ht
          rw [if_neg (by simp)]
          rfl
        · rw [if_pos ht]
          exact run_fold n t f _ (by omega) ht (by omega)
end Go.Proofs.YtepnbnpgifpfbaaDoor.G
namespace Go.Proofs.YtepnbnpgifpfbaaDoor.G
open Go.RowKit Go.Proofs.YtepnbnpgifpfbaaDoorW.PrintWords Go.Proofs.YtepnbnpgifpfbaaDoorW.PrintMore
def dgI (b : UInt8) : Int := match hexV b with | some v => (v : Int) | none => -1
theorem idx_all : ∀ n : Nat, n < 256 → Lib.indexByte [48, 49, 50, 51, 52, 53, 54, 55, 56, 57, 97, 98, 99, 100, 101, 102] (UInt8.ofNat n) = dgI (UInt8.ofNat n) := by decide +kernel
theorem dgI_range (b : UInt8) : -1 ≤ dgI b ∧ dgI b ≤ 15 := by
  unfold dgI
  cases h : hexV b with
  | none => decide
  | some v => have := hexV_lt h; simp only; omega
theorem dgI_some (b : UInt8) : (hexV b).isSome = decide (0 ≤ dgI b) := by
  unfold dgI
  cases hexV b with
  | none => rfl
  | some v => simp
theorem idx_hex (b : UInt8) : strings_IndexByte.f (⟨#[48, 49, 50, 51, 52, 53, 54, 55, 56, 57, 97, 98, 99, 100, 101, 102]⟩ : ByteArray) (b.toNat : Int) = some (dgI b) := by
  unfold strings_IndexByte.f
  have h := idx_all b.toNat (UInt8.toNat_lt b)
  rw [UInt8.ofNat_toNat] at h
  have e : ((b.toNat : Int)).toNat.toUInt8 = b := by simp
  rw [e]
  exact congrArg some h
theorem two_bytes (s : ByteArray) (h : s.size = 2) : bs s = [s.get! 0, s.get! 1] := by
  apply List.ext_getElem?
  intro i
  match i with
  | 0 => rw [bs_get s 0 (by omega)]; rfl
  | 1 => rw [bs_get s 1 (by omega)]; rfl
  | i + 2 => rw [List.getElem?_eq_none (by rw [bs_len]; omega)]; rfl
theorem hexS_none (l : List UInt8) (h : l.length ≠ 2) : hexS l = none := by
  match l, h with
  | [], _ => rfl
  | [_], _ => rfl
  | [_, _], h => exact absurd rfl h
  | _ :: _ :: _ :: _, _ => rfl
theorem hex_eq (s : ByteArray) : ∃ v : Nat, v < 256 ∧ lex_hex.f s = some ((v : Int), (hexS (bs s)).isSome) ∧ ∀ x, hexS (bs s) = some x → v = x := by
  unfold lex_hex.f
  by_cases h2 : s.size = 2
  · have b0 : bt s 0 = ((s.get! 0).toNat : Int) := bt_nat s 0
    have b1 : bt s 1 = ((s.get! 1).toNat : Int) := bt_nat s 1
    rw [if_pos (by omega), if_pos (by omega), b0, b1, idx_hex, Option.bind_some, if_pos (by omega), idx_hex, Option.bind_some, two_bytes s h2]
    generalize s.get! 0 = x
    generalize s.get! 1 = y
    have hx := dgI_range x
    have hy := dgI_range y
    have hval : wrap64 (wrap64 (dgI x * 16) + dgI y) = dgI x * 16 + dgI y := by
      rw [w64 (x := dgI x * 16) (by omega) (by omega), w64 (by omega) (by omega)]
    rw [hval]
    clear hval
    refine ⟨((dgI x * 16 + dgI y) % 256).toNat, by omega, ?_, ?_⟩
    · have e : ((((dgI x * 16 + dgI y) % 256).toNat : Nat) : Int) = (dgI x * 16 + dgI y) % 256 := Int.toNat_of_nonneg (by omega)
      rw [e]
      have hs : (hexS [x, y]).isSome = (decide (0 ≤ dgI x) && decide (0 ≤ dgI y)) := by
        rw [← dgI_some, ← dgI_some]
        show (pairL [x, y]).isSome = _
        simp only [pairL]
        cases hexV x <;> cases hexV y <;> rfl
      rw [hs]
      by_cases c : 0 ≤ dgI x
      · rw [if_pos c, decide_eq_true c, Bool.true_and]
      · rw [if_neg c, decide_eq_false c, Bool.false_and]
    · intro v hv
      have hv' : pairL [x, y] = some v := hv
      simp only [pairL] at hv'
      unfold dgI
      cases h1 : hexV x with
      | none => rw [h1] at hv'; cases hv'
      | some a =>
        cases h3 : hexV y with
        | none => rw [h1, h3] at hv'; cases hv'
        | some b =>
          rw [h1, h3] at hv'
          have := hexV_lt h1
          have := hexV_lt h3
          cases hv'
          simp only
          omega
  · rw [if_neg (by omega)]
    have e : hexS (bs s) = none := hexS_none _ (by rw [bs_len]; exact h2)
    rw [e]
    exact ⟨0, by decide, rfl, fun x h => by cases h⟩
theorem cut_f (c : UInt8) (s : ByteArray) (hs : s.size ≤ 4000) : strings_Cut.f s (⟨#[c]⟩ : ByteArray) = some (⟨(ahead c (bs s)).toArray⟩, ⟨((from1 c (bs s)).drop 1).toArray⟩, decide (c ∈ bs s)) := by
  unfold strings_Cut.f
  rw [if_pos (by omega)]
  have e : (⟨#[c]⟩ : ByteArray).data.toList = [c] := rfl
  rw [e, cut_one]
theorem lexrow_eq (s : ByteArray) (hs : s.size ≤ 4000) : ∃ p : Nat → Bool, Ev (fun k => lex_row.f k s) ((cls p).1, (cls p).2.1, (cls p).2.2.1, (cls p).2.2.2, (rowS (bs s)).isSome) ∧ ∀ a b, rowS (bs s) = some (a, b) → p = rowP a b := by
  unfold lex_row.f
  simp only [cut_f 45 s hs, Option.bind_some]
  obtain ⟨v, hv, hx, hvx⟩ := hex_eq ⟨(ahead 45 (bs s)).toArray⟩
  have e1 : bs ⟨(ahead 45 (bs s)).toArray⟩ = ahead 45 (bs s) := rfl
  rw [e1] at hx hvx
  simp only [hx, Option.bind_some]
  by_cases hm : 45 ∈ bs s
  · simp only [hm, decide_true, if_true]
    obtain ⟨u, hu, hy, huy⟩ := hex_eq ⟨((from1 45 (bs s)).drop 1).toArray⟩
    have e2 : bs ⟨((from1 45 (bs s)).drop 1).toArray⟩ = (from1 45 (bs s)).drop 1 := rfl
    rw [e2] at hy huy
    simp only [hy, Option.bind_some]
    refine ⟨rowP v u, Ev.bind (of_eq v u) ?_, ?_⟩
    · unfold rowS
      rw [if_pos hm]
      cases h1 : hexS (ahead 45 (bs s)) with
      | none => simp only [Option.isSome_none, Bool.false_eq_true, if_false]; exact Ev.now _
      | some a =>
        cases h2 : hexS ((from1 45 (bs s)).drop 1) with
        | none => simp only [Option.isSome_none, Option.isSome_some, Bool.false_eq_true, if_false, if_true]; exact Ev.now _
        | some b =>
          have ea := hvx a h1
          have eb := huy b h2
          subst ea eb
          simp only [Option.isSome_some, if_true]
          by_cases hab : v ≤ u
          · rw [if_pos hab]
            have : decide ((v : Int) ≤ (u : Int)) = true := decide_eq_true (by omega)
            rw [this]
            exact Ev.now _
          · rw [if_neg hab]
            have : decide ((v : Int) ≤ (u : Int)) = false := decide_eq_false (by omega)
            rw [this]
            exact Ev.now _
    · intro a b h
      unfold rowS at h
      rw [if_pos hm] at h
      split at h
      · rename_i x y h1 h2
        split at h
        · cases h
          rw [hvx _ h1, huy _ h2]
        · cases h
      · cases h
  · simp only [hm, decide_false, Bool.false_eq_true, if_false]
    have ha : ahead 45 (bs s) = bs s := by
      rcases from1_cases 45 (bs s) with ⟨_, _, h3⟩ | ⟨h1, _⟩
      · exact h3
      · exact absurd h1 hm
    refine ⟨rowP v v, Ev.bind (of_eq v v) ?_, ?_⟩
    · unfold rowS
      rw [if_neg hm, ha]
      cases hexS (bs s) with
      | none => exact Ev.now _
      | some a => exact Ev.now _
    · intro a b h
      unfold rowS at h
      rw [if_neg hm] at h
      rw [ha] at hvx
      split at h
      · rename_i x h1
        cases h
        rw [hvx _ h1]
      · cases h
def Qn (nt : Bool) (q : Nat → Bool) : Nat → Bool := if nt = true then fun i => !q i else q
def bytesTok (nt : Bool) (o : Option (Nat → Bool)) : Int × Int × Int × Int × Int × Int × ByteArray × Int × Int × Int :=
  match o with
  | none => (0, 0, 0, 0, 0, 0, ⟨#[]⟩, 0, 0, 2)
  | some q => (1, 0, (cls (Qn nt q)).1, (cls (Qn nt q)).2.1, (cls (Qn nt q)).2.2.1, (cls (Qn nt q)).2.2.2, ⟨#[]⟩, 0, 0, 0)
theorem bytes_loop (x4 : ByteArray) (hx : x4.toList ≠ []) (nt : Bool) (L : List ByteArray) (hL : L.length ≤ 9000) (hs : ∀ x ∈ L, x.size ≤ 4000) : ∀ (d i : Nat) (p : Nat → Bool), i + d = L.length →
    Ev (fun k => lex_bytes.l0 k x4 nt L (L.length : Int) (i : Int) (cls p).1 (cls p).2.1 (cls p).2.2.1 (cls p).2.2.2) (bytesTok nt (foldP ((L.drop i).map bs) p))
  | 0, i, p, h => by
    have e : L.drop i = [] := List.drop_eq_nil_of_le (by omega)
    rw [e]
    refine Ev.step (f := fun _ => some (bytesTok nt (some p))) (fun k => ?_) ⟨0, fun _ _ => rfl⟩
    rw [lex_bytes.l0, if_neg (by omega), not_cls]
    cases nt <;> rfl
  | d + 1, i, p, h => by
    have hi : i < L.length := by omega
    have e : L.drop i = L[i] :: L.drop (i + 1) := List.drop_eq_getElem_cons hi
    have hrd : rdOf ByteArray.empty L (i : Int) = L[i] := by
      unfold rdOf
      rw [Int.toNat_natCast, List.getD_eq_getElem?_getD, List.getElem?_eq_getElem hi]; rfl
    have hw := Aside0.mk (show wrap64 ((i : Int) + 1) = ((i + 1 : Nat) : Int) from w64 (by omega) (by omega))
    obtain ⟨q, hq, hqr⟩ := lexrow_eq L[i] (hs _ (List.getElem_mem hi))
    rw [e, List.map_cons]
    simp only [foldP]
    refine Ev.step (f := fun k => _) (fun k => by rw [lex_bytes.l0, if_pos (by omega), if_pos (by omega), if_pos (by omega), if_neg hx, hrd]) (Ev.bind hq ?_)
    cases hr : rowS (bs L[i]) with
    | none =>
      simp only [Option.isSome_none, Bool.false_eq_true, if_false]
      exact Ev.now _
    | some ab =>
      obtain ⟨a, b⟩ := ab
      have eq := hqr a b hr
      subst eq
      simp only [Option.isSome_some, if_true, join_cls, Option.bind_some, hw.out]
      exact bytes_loop x4 hx nt L hL hs d (i + 1) (addR p a b) (by omega)
theorem prefix_eq (s : ByteArray) : strings_CutPrefix.f s (⟨#[94]⟩ : ByteArray) = some (if (bs s).head? = some 94 then (s.extract 1 s.size, true) else (s, false)) := by
  unfold strings_CutPrefix.f stringslite_CutPrefix.f stringslite_HasPrefix.f
  have h1 : (⟨#[94]⟩ : ByteArray).size = 1 := rfl
  rw [h1]
  by_cases hs : 1 ≤ s.size
  · rw [if_pos (by omega), if_pos (by omega), if_pos (by omega), Option.bind_some]
    have e : (s.extract 0 ((1 : Nat) : Int).toNat).toList = [s.get! 0] := by
      rw [ByteArray.toList_eq]
      show bs _ = _
      rw [bs_ext]
      have : (bs s).head? = some (s.get! 0) := by rw [List.head?_eq_getElem?, bs_get s 0 (by omega)]
      cases hb : bs s with
      | nil => rw [hb] at this; cases this
      | cons x t => rw [hb] at this; have := Option.some.inj this; simp [this]
    have h0 : (bs s).head? = some (s.get! 0) := by rw [List.head?_eq_getElem?, bs_get s 0 (by omega)]
    have e94 : (⟨#[94]⟩ : ByteArray).toList = [94] := by rw [ByteArray.toList_eq]
    rw [e, e94, h0]
    by_cases hc : s.get! 0 = 94
    · rw [hc, if_pos (show ([(94 : UInt8)] == [94]) = true by decide), if_pos (by omega), if_pos (by omega), if_pos rfl]
      rfl
    · have : ([s.get! 0] == [(94 : UInt8)]) = false := by simpa using hc
      rw [this, if_neg (by decide), if_neg (by simpa using hc)]
      rfl
  · rw [if_neg (by omega), Option.bind_some, if_neg (by decide)]
    have : (bs s).head? = none := by rw [List.head?_eq_getElem?, List.getElem?_eq_none (by rw [bs_len]; omega)]
    rw [this, if_neg (by simp)]
    rfl
theorem pieces_le (c : UInt8) : ∀ (n : Nat) (l : List UInt8), l.length ≤ n → ∀ x ∈ pieces c l, x.length ≤ l.length
  | n, l, hn, x, hx => by
    rw [pieces_eq] at hx
    rcases List.mem_cons.1 hx with rfl | hx
    · exact (List.takeWhile_prefix _).length_le
    · rcases from1_cases c l with ⟨h1, h2, h3⟩ | ⟨h1, t, h2, h3⟩
      · rw [h2] at hx; cases hx
      · rw [h2] at hx
        have hlen : t.length < l.length := by
          have := congrArg List.length h3
          rw [List.length_append, List.length_cons] at this
          omega
        match n, hn with
        | 0, hn => omega
        | n + 1, hn =>
          have := pieces_le c n t (by omega) x hx
          omega
def strip94 (l : List UInt8) : List UInt8 := if l.head? = some 94 then l.drop 1 else l
def bytesS (l : List UInt8) : Option (Nat → Bool) := if strip94 l = [] then some (fun _ => false) else foldP (pieces 44 (strip94 l)) (fun _ => false)
theorem lexbytes_eq (s : ByteArray) (hs : s.size ≤ 3000) : Ev (fun k => lex_bytes.f k s) (bytesTok (decide ((bs s).head? = some 94)) (bytesS (bs s))) := by
  have main : ∀ (t : ByteArray) (nt : Bool), t.size ≤ s.size → bs t = strip94 (bs s) → Ev (fun k => (strings_Split.f t (⟨#[44]⟩ : ByteArray)).bind fun t135 => lex_bytes.l0 k t nt t135 (t135.length : Int) 0 0 0 0 0) (bytesTok nt (bytesS (bs s))) := by
    intro t nt ht hb
    have hsp : strings_Split.f t (⟨#[44]⟩ : ByteArray) = some (Lib.splitB ⟨#[44]⟩ 0 (Lib.countB t ⟨#[44]⟩) t) := by
      unfold strings_Split.f
      rw [if_pos ⟨by omega, by decide⟩]
    simp only [hsp, Option.bind_some]
    have hmap : (Lib.splitB ⟨#[44]⟩ 0 (Lib.countB t ⟨#[44]⟩) t).map bs = pieces 44 (bs t) := by
      have h := Lib.splitB_data ⟨#[44]⟩ 0 (Lib.countB t ⟨#[44]⟩) t
      have e : (⟨#[44]⟩ : ByteArray).data.toList = [44] := rfl
      rw [e] at h
      refine h.trans ?_
      unfold pieces
      rw [← Lib.count_one]
    have hlen : (Lib.splitB ⟨#[44]⟩ 0 (Lib.countB t ⟨#[44]⟩) t).length ≤ 9000 := by
      have h1 := Lib.splitB_length_le ⟨#[44]⟩ 0 (Lib.countB t ⟨#[44]⟩) t
      have h2 := Lib.countB_le ⟨#[44]⟩ (by decide) t.size t (Nat.le_refl _)
      omega
    have hsz : ∀ x ∈ Lib.splitB ⟨#[44]⟩ 0 (Lib.countB t ⟨#[44]⟩) t, x.size ≤ 4000 := by
      intro x hx
      have h1 : bs x ∈ pieces 44 (bs t) := by rw [← hmap]; exact List.mem_map_of_mem hx
      have h2 := pieces_le 44 _ (bs t) (Nat.le_refl _) _ h1
      rw [bs_len, bs_len] at h2
      omega
    have h0 : cls (fun _ => false) = (0, 0, 0, 0) := cls_none
    by_cases he : bs t = []
    · have hl1 : 0 < (Lib.splitB ⟨#[44]⟩ 0 (Lib.countB t ⟨#[44]⟩) t).length := by
        have := congrArg List.length hmap
        rw [List.length_map, pieces_eq, List.length_cons] at this
        omega
      unfold bytesS
      rw [← hb, if_pos he]
      refine Ev.step (f := fun _ => some (bytesTok nt (some fun _ => false))) (fun k => ?_) ⟨0, fun _ _ => rfl⟩
      rw [lex_bytes.l0, if_pos (by omega), if_pos (by omega), if_pos (by omega), if_pos ((toList_nil t).2 he)]
      have hn := not_cls (fun _ => false)
      rw [h0] at hn
      rw [hn]
      cases nt
      · simp only [Bool.false_eq_true, if_false]
        show _ = some (bytesTok false (some fun _ => false))
        unfold bytesTok Qn
        simp only [Bool.false_eq_true, if_false]
        rw [h0]
      · rfl
    · unfold bytesS
      rw [← hb, if_neg he]
      have hl := bytes_loop t (fun q => he ((toList_nil t).1 q)) nt _ hlen hsz _ 0 (fun _ => false) (Nat.zero_add _)
      rw [h0, List.drop_zero, hmap] at hl
      exact hl
  unfold lex_bytes.f
  simp only [prefix_eq, Option.bind_some]
  by_cases hc : (bs s).head? = some 94
  · simp only [hc, if_true, decide_true]
    refine main _ true (by rw [ByteArray.size_extract]; omega) ?_
    rw [bs_ext]
    unfold strip94
    rw [if_pos hc, List.take_of_length_le (by rw [List.length_drop, bs_len]; omega)]
  · have hd : decide ((bs s).head? = some 94) = false := decide_eq_false hc
    simp only [if_neg hc, hd]
    refine main s false (Nat.le_refl _) ?_
    unfold strip94
    rw [if_neg hc]
end Go.Proofs.YtepnbnpgifpfbaaDoor.G
namespace Go.Proofs.YtepnbnpgifpfbaaDoor.G
open Go.RowKit Go.Proofs.YtepnbnpgifpfbaaDoorW.PrintWords Go.Proofs.YtepnbnpgifpfbaaDoorW.PrintMore
theorem dgI_eq (b : UInt8) : dgI b = if 48 ≤ b.toNat ∧ b.toNat ≤ 57 then (b.toNat : Int) - 48 else if 97 ≤ b.toNat ∧ b.toNat ≤ 102 then (b.toNat : Int) - 87 else -1 := by
  unfold dgI hexV
  by_cases h1 : 48 ≤ b.toNat ∧ b.toNat ≤ 57
  · rw [if_pos h1, if_pos h1]; simp only; omega
  · rw [if_neg h1, if_neg h1]
    by_cases h2 : 97 ≤ b.toNat ∧ b.toNat ≤ 102
    · rw [if_pos h2, if_pos h2]; simp only; omega
    · rw [if_neg h2, if_neg h2]
theorem digit_eq (b : UInt8) (k : Nat) : scantlingref03_digit.f (k + 1) (b.toNat : Int) = some (dgI b) := by
  have hb : b.toNat < 256 := UInt8.toNat_lt b
  rw [dgI_eq]
  generalize b.toNat = x at *
  have w0 := Aside0.mk (show wrap64 (x : Int) = (x : Int) from w64 (by omega) (by omega))
  have jt : scantlingref03_digit.j0 (k + 1) (x : Int) true = some ((x : Int) - 48) := by
    rw [scantlingref03_digit.j0, if_pos rfl, w0.out, w64 (by omega) (by omega)]
  have jf : scantlingref03_digit.j0 (k + 1) (x : Int) false = some (if 97 ≤ x ∧ x ≤ 102 then (x : Int) - 87 else -1) := by
    rw [scantlingref03_digit.j0, if_neg (by decide)]
    by_cases h3 : 97 ≤ x ∧ x ≤ 102
    · rw [if_pos (by omega : (x : Int) ≥ 97), if_pos (by omega : (x : Int) ≤ 102), if_pos h3, w0.out, w64 (by omega) (by omega)]
    · rw [if_neg h3]
      by_cases h4 : 97 ≤ x
      · rw [if_pos (by omega : (x : Int) ≥ 97), if_neg (by omega : ¬ (x : Int) ≤ 102)]
      · rw [if_neg (by omega : ¬ (x : Int) ≥ 97)]
  unfold scantlingref03_digit.f
  by_cases h1 : 48 ≤ x ∧ x ≤ 57
  · rw [if_pos h1, if_pos (by omega : (x : Int) ≥ 48), decide_eq_true (by omega : (x : Int) ≤ 57), jt]
  · rw [if_neg h1]
    by_cases h2 : 48 ≤ x
    · rw [if_pos (by omega : (x : Int) ≥ 48), decide_eq_false (by omega : ¬ (x : Int) ≤ 57), jf]
    · rw [if_neg (by omega : ¬ (x : Int) ≥ 48), jf]
theorem ev_digit (b : UInt8) : Ev (fun k => scantlingref03_digit.f k (b.toNat : Int)) (dgI b) := Ev.step (fun k => digit_eq b k) (Ev.now _)
def pairI (l : List UInt8) : Int := match pairL l with | some v => (v : Int) | none => -1
theorem drop_get (s : ByteArray) (i : Nat) (h : i < s.size) : (bs s).drop i = s.get! i :: (bs s).drop (i + 1) := by
  have hl : i < (bs s).length := by rw [bs_len]; exact h
  rw [List.drop_eq_getElem_cons hl, get_bang s i h]
theorem drop_end (s : ByteArray) (i : Nat) (h : s.size ≤ i) : (bs s).drop i = [] := List.drop_eq_nil_of_le (by rw [bs_len]; exact h)
theorem pair_eq (s : ByteArray) (hs : s.size ≤ 4000) (i : Nat) (hi : i ≤ 9000) : Ev (fun k => scantlingref03_pair.f k s (i : Int)) (pairI ((bs s).drop i)) := by
  have hw := Aside0.mk (show wrap64 ((i : Int) + 1) = ((i + 1 : Nat) : Int) from w64 (by omega) (by omega))
  have jt : Ev (fun k => scantlingref03_pair.j0 k s (i : Int) true) (-1) := Ev.step (f := fun _ => some (-1)) (fun k => by rw [scantlingref03_pair.j0, if_pos rfl]) (Ev.now _)
  unfold scantlingref03_pair.f
  simp only [hw.out]
  by_cases h : i + 1 < s.size
  · have h0 : ¬ (((i + 1 : Nat) : Int) ≥ (s.size : Int)) := by omega
    have e0 : bt s (i : Int) = ((s.get! i).toNat : Int) := bt_nat s i
    have e1 : bt s ((i + 1 : Nat) : Int) = ((s.get! (i + 1)).toNat : Int) := bt_nat s (i + 1)
    have p1 : (0 : Int) ≤ (i : Int) := by omega
    have p2 : (i : Int) < (s.size : Int) := by omega
    have p3 : (0 : Int) ≤ ((i + 1 : Nat) : Int) := by omega
    have p4 : ((i + 1 : Nat) : Int) < (s.size : Int) := by omega
    simp only [if_neg h0, if_pos p1, if_pos p2, if_pos p3, if_pos p4, e0, e1]
    have hd : (bs s).drop i = s.get! i :: s.get! (i + 1) :: (bs s).drop (i + 2) := by rw [drop_get s i (by omega), drop_get s (i + 1) h]
    rw [hd]
    have hx := dgI_range (s.get! i)
    have hy := dgI_range (s.get! (i + 1))
    have hv : pairI (s.get! i :: s.get! (i + 1) :: (bs s).drop (i + 2)) = if dgI (s.get! i) < 0 then -1 else if dgI (s.get! (i + 1)) < 0 then -1 else 16 * dgI (s.get! i) + dgI (s.get! (i + 1)) := by
      unfold pairI dgI
      simp only [pairL]
      cases h1 : hexV (s.get! i) with
      | none => simp
      | some a =>
        cases h2 : hexV (s.get! (i + 1)) with
        | none => simp
        | some b =>
          simp only
          rw [if_neg (by omega), if_neg (by omega)]
          omega
    rw [hv]
    refine Ev.bind (ev_digit _) ?_
    by_cases c1 : dgI (s.get! i) < 0
    · simp only [if_pos c1]
      exact jt
    · simp only [if_neg c1]
      refine Ev.bind (ev_digit _) ?_
      by_cases c2 : dgI (s.get! (i + 1)) < 0
      · simp only [if_pos c2, decide_eq_true c2]
        exact jt
      · simp only [if_neg c2, decide_eq_false c2]
        refine Ev.step (f := fun k => (scantlingref03_digit.f k ((s.get! i).toNat : Int)).bind fun t243 => (scantlingref03_digit.f k ((s.get! (i + 1)).toNat : Int)).bind fun t244 => some (wrap64 ((wrap64 (16 * t243)) + t244))) (fun k => ?_) ?_
        · rw [scantlingref03_pair.j0, if_neg (by decide), if_pos p1, if_pos p2, e0, hw.out, e1]
          simp only [if_pos p3, if_pos p4]
        · refine Ev.bind (ev_digit _) (Ev.bind (ev_digit _) ?_)
          rw [w64 (x := 16 * dgI (s.get! i)) (by omega) (by omega), w64 (by omega) (by omega)]
          exact Ev.now _
  · have h0 : ((i + 1 : Nat) : Int) ≥ (s.size : Int) := by omega
    simp only [if_pos h0]
    have e : pairI ((bs s).drop i) = -1 := by
      by_cases h1 : i < s.size
      · rw [drop_get s i h1, drop_end s (i + 1) (by omega)]; rfl
      · rw [drop_end s i (by omega)]; rfl
    rw [e]
    exact jt
abbrev R5 := Int × Int × Int × Int × Bool
def Out (nt : Bool) (o : Option (Nat → Bool)) (r : R5) : Prop :=
  match o with
  | none => r.2.2.2.2 = false
  | some q => r = ((cls (Qn nt q)).1, (cls (Qn nt q)).2.1, (cls (Qn nt q)).2.2.1, (cls (Qn nt q)).2.2.2, true)
theorem refb_end (s : ByteArray) (i : Nat) (hi : s.size ≤ i) (nt : Bool) (p : Nat → Bool) :
    Ev (fun k => scantlingref03_bytes.l0 k s (i : Int) nt (cls p).1 (cls p).2.1 (cls p).2.2.1 (cls p).2.2.2) ((cls (Qn nt p)).1, (cls (Qn nt p)).2.1, (cls (Qn nt p)).2.2.1, (cls (Qn nt p)).2.2.2, true) := by
  have h : ¬ ((i : Int) < (s.size : Int)) := by omega
  cases nt with
  | false => exact Ev.step (f := fun _ => some _) (fun k => by rw [scantlingref03_bytes.l0, if_neg h, if_neg (by decide)]; rfl) (Ev.now _)
  | true =>
    refine Ev.step (f := fun k => (scantlingref01_Not.f k (cls p).1 (cls p).2.1 (cls p).2.2.1 (cls p).2.2.2).bind fun bt247 => some (bt247.1, bt247.2.1, bt247.2.2.1, bt247.2.2.2, true)) (fun k => by rw [scantlingref03_bytes.l0, if_neg h, if_pos rfl]) (Ev.bind (refnot_eq p) ?_)
    exact Ev.now _
theorem refb_j5_no (s : ByteArray) (x4 : Int) (nt : Bool) (x7 x8 : Int) (p : Nat → Bool) (o : Option (Nat → Bool)) (ho : o = none) :
    ∃ r, Ev (fun k => scantlingref03_bytes.j5 k s x4 nt x7 x8 true (cls p).1 (cls p).2.1 (cls p).2.2.1 (cls p).2.2.2) r ∧ Out nt o r := by
  subst ho
  exact ⟨((cls p).1, (cls p).2.1, (cls p).2.2.1, (cls p).2.2.2, false), Ev.step (f := fun _ => some _) (fun k => by rw [scantlingref03_bytes.j5, if_pos rfl]) (Ev.now _), rfl⟩
theorem refb_j4_no (s : ByteArray) (x4 : Int) (nt : Bool) (x7 x8 : Int) (p : Nat → Bool) (h : x7 < 0 ∨ x8 < x7) (o : Option (Nat → Bool)) (ho : o = none) :
    ∃ r, Ev (fun k => scantlingref03_bytes.j4 k s x4 nt x7 x8 (cls p).1 (cls p).2.1 (cls p).2.2.1 (cls p).2.2.2) r ∧ Out nt o r := by
  obtain ⟨r, h1, h2⟩ := refb_j5_no s x4 nt x7 x8 p o ho
  refine ⟨r, Ev.step (fun k => ?_) h1, h2⟩
  rw [scantlingref03_bytes.j4]
  by_cases h7 : x7 < 0
  · rw [if_pos h7]
  · rw [if_neg h7, decide_eq_true (h.resolve_left h7)]
theorem refb_j4_yes (s : ByteArray) (hs : s.size ≤ 4000) (u : Nat) (hu : u ≤ s.size) (nt : Bool) (a b : Nat) (hab : a ≤ b) (hb : b < 256) (p : Nat → Bool) (f : Nat)
    (ih : ∀ v, u < v → v ≤ s.size → ∀ (f' : Nat), f' < f → 2 * (s.size - v) + 1 ≤ f' → ∀ q : Nat → Bool, ∃ r, Ev (fun k => scantlingref03_bytes.l0 k s (v : Int) nt (cls q).1 (cls q).2.1 (cls q).2.2.1 (cls q).2.2.2) r ∧ Out nt (refRun f' ((bs s).drop v) q) r)
    (hf : 2 * (s.size - u) ≤ f) :
    ∃ r, Ev (fun k => scantlingref03_bytes.j4 k s (u : Int) nt (a : Int) (b : Int) (cls p).1 (cls p).2.1 (cls p).2.2.1 (cls p).2.2.2) r ∧ Out nt (refNext f ((bs s).drop u) (addR p a b)) r := by
  have step : ∀ r, Ev (fun k => if (u : Int) < (s.size : Int) then (if 0 ≤ (u : Int) then (if (bt s (u : Int)) = 44 then (if (wrap64 ((u : Int) + 1)) = (s.size : Int) then (some ((cls (addR p a b)).1, (cls (addR p a b)).2.1, (cls (addR p a b)).2.2.1, (cls (addR p a b)).2.2.2, false)) else (scantlingref03_bytes.l0 k s (wrap64 ((u : Int) + 1)) nt (cls (addR p a b)).1 (cls (addR p a b)).2.1 (cls (addR p a b)).2.2.1 (cls (addR p a b)).2.2.2)) else (some ((cls (addR p a b)).1, (cls (addR p a b)).2.1, (cls (addR p a b)).2.2.1, (cls (addR p a b)).2.2.2, false))) else none) else (scantlingref03_bytes.l0 k s (u : Int) nt (cls (addR p a b)).1 (cls (addR p a b)).2.1 (cls (addR p a b)).2.2.1 (cls (addR p a b)).2.2.2)) r →
      Ev (fun k => scantlingref03_bytes.j4 k s (u : Int) nt (a : Int) (b : Int) (cls p).1 (cls p).2.1 (cls p).2.2.1 (cls p).2.2.2) r := by
    intro r h
    have n1 : ¬ ((a : Int) < 0) := by omega
    have n2 : decide ((b : Int) < (a : Int)) = false := decide_eq_false (by omega)
    have m1 : (a : Int) % 256 = a := by omega
    have m2 : (b : Int) % 256 = b := by omega
    refine Ev.step (fun k => by rw [scantlingref03_bytes.j4, if_neg n1, n2]) ?_
    refine Ev.step (f := fun k => (scantlingref01_Row.f k (a : Int) (b : Int)).bind fun bt253 => (scantlingref01_Join.f k (cls p).1 (cls p).2.1 (cls p).2.2.1 (cls p).2.2.2 bt253.1 bt253.2.1 bt253.2.2.1 bt253.2.2.2).bind fun bt257 => (if (u : Int) < (s.size : Int) then (if 0 ≤ (u : Int) then (if (bt s (u : Int)) = 44 then (if (wrap64 ((u : Int) + 1)) = (s.size : Int) then (some (bt257.1, bt257.2.1, bt257.2.2.1, bt257.2.2.2, false)) else (scantlingref03_bytes.l0 k s (wrap64 ((u : Int) + 1)) nt bt257.1 bt257.2.1 bt257.2.2.1 bt257.2.2.2)) else (some (bt257.1, bt257.2.1, bt257.2.2.1, bt257.2.2.2, false))) else none) else (scantlingref03_bytes.l0 k s (u : Int) nt bt257.1 bt257.2.1 bt257.2.2.1 bt257.2.2.2))) (fun k => by rw [scantlingref03_bytes.j5, if_neg (by decide), m1, m2]) ?_
    exact Ev.bind (row_eq a b (by omega) (by omega)) (Ev.bind (refjoin_eq p (rowP a b)) h)
  by_cases hlt : u < s.size
  · have hd := drop_get s u hlt
    have hbt : bt s (u : Int) = ((s.get! u).toNat : Int) := bt_nat s u
    have hw := Aside0.mk (show wrap64 ((u : Int) + 1) = ((u + 1 : Nat) : Int) from w64 (by omega) (by omega))
    have q1 : (u : Int) < (s.size : Int) := by omega
    have q2 : (0 : Int) ≤ (u : Int) := by omega
    simp only [if_pos q1, if_pos q2, hbt, hw.out] at step
    obtain ⟨f, rfl⟩ : ∃ g, f = g + 1 := ⟨f - 1, by omega⟩
    rw [hd]
    simp only [refNext]
    by_cases c : s.get! u = 44
    · have c' : ((s.get! u).toNat : Int) = 44 := by rw [c]; rfl
      simp only [if_pos c'] at step
      by_cases e : u + 1 = s.size
      · have e' : ((u + 1 : Nat) : Int) = (s.size : Int) := by omega
        simp only [if_pos e'] at step
        rw [drop_end s (u + 1) (by omega), if_neg (fun h => h.2 rfl)]
        exact ⟨_, step _ (Ev.now _), rfl⟩
      · have e' : ¬ ((u + 1 : Nat) : Int) = (s.size : Int) := by omega
        simp only [if_neg e'] at step
        have hne : (bs s).drop (u + 1) ≠ [] := by rw [drop_get s (u + 1) (by omega)]; simp
        rw [if_pos ⟨c, hne⟩]
        obtain ⟨r, h1, h2⟩ := ih (u + 1) (by omega) (by omega) f (by omega) (by omega) (addR p a b)
        exact ⟨r, step r h1, h2⟩
    · have c' : ¬ ((s.get! u).toNat : Int) = 44 := by
        intro q
        apply c
        apply UInt8.toNat_inj.1
        show (s.get! u).toNat = 44
        omega
      simp only [if_neg c'] at step
      rw [if_neg (fun h => c h.1)]
      exact ⟨_, step _ (Ev.now _), rfl⟩
  · have q1 : ¬ (u : Int) < (s.size : Int) := by omega
    simp only [if_neg q1] at step
    rw [drop_end s u (by omega)]
    refine ⟨_, step _ (refb_end s u (by omega) nt _), ?_⟩
    simp only [refNext, Out]
theorem pair_room {s : ByteArray} {i a : Nat} (h : pairL ((bs s).drop i) = some a) : i + 2 ≤ s.size := by
  rcases Nat.lt_or_ge (i + 1) s.size with q | q
  · omega
  · exfalso
    by_cases h1 : i < s.size
    · rw [drop_get s i h1, drop_end s (i + 1) (by omega)] at h; cases h
    · rw [drop_end s i (by omega)] at h; cases h
theorem refb_loop (s : ByteArray) (hs : s.size ≤ 4000) (nt : Bool) : ∀ (n f i : Nat), f ≤ n → i ≤ s.size → 2 * (s.size - i) + 1 ≤ f → ∀ p : Nat → Bool,
    ∃ r, Ev (fun k => scantlingref03_bytes.l0 k s (i : Int) nt (cls p).1 (cls p).2.1 (cls p).2.2.1 (cls p).2.2.2) r ∧ Out nt (refRun f ((bs s).drop i) p) r
  | 0, f, i, hn, hi, hf, p => by omega
  | n + 1, f, i, hn, hi, hf, p => by
    obtain ⟨f, rfl⟩ : ∃ g, f = g + 1 := ⟨f - 1, by omega⟩
    by_cases hlt : i < s.size
    · have hd := drop_get s i hlt
      have hpair := pair_eq s hs i (by omega)
      have hw2 := Aside0.mk (show wrap64 ((i : Int) + 2) = ((i + 2 : Nat) : Int) from w64 (by omega) (by omega))
      have hw21 := Aside0.mk (show wrap64 (((i + 2 : Nat) : Int) + 1) = ((i + 3 : Nat) : Int) from w64 (by omega) (by omega))
      have hw23 := Aside0.mk (show wrap64 (((i + 2 : Nat) : Int) + 3) = ((i + 5 : Nat) : Int) from w64 (by omega) (by omega))
      have hl : (bs s).drop (i + 2) = ((bs s).drop (i + 1)).drop 1 := by rw [List.drop_drop]
      have hl3 : (bs s).drop (i + 3) = ((bs s).drop (i + 1)).drop 2 := by rw [List.drop_drop]
      have hl5 : (bs s).drop (i + 5) = ((bs s).drop (i + 1)).drop 4 := by rw [List.drop_drop]
      have ih' : ∀ u, i ≤ u → ∀ v, u < v → v ≤ s.size → ∀ (f' : Nat), f' < f → 2 * (s.size - v) + 1 ≤ f' → ∀ q : Nat → Bool, ∃ r, Ev (fun k => scantlingref03_bytes.l0 k s (v : Int) nt (cls q).1 (cls q).2.1 (cls q).2.2.1 (cls q).2.2.2) r ∧ Out nt (refRun f' ((bs s).drop v) q) r :=
        fun u hu v huv hv f' hf' hfv q => refb_loop s hs nt n f' v (by omega) hv hfv q
      have j3 : ∀ (dash : Bool), dash = decide (((bs s).drop (i + 2)).head? = some 45) → ∃ r, Ev (fun k => scantlingref03_bytes.j3 k s ((i + 2 : Nat) : Int) nt (pairI ((bs s).drop i)) (pairI ((bs s).drop i)) dash (cls p).1 (cls p).2.1 (cls p).2.2.1 (cls p).2.2.2) r ∧ Out nt (refRun (f + 1) ((bs s).drop i) p) r := by
        intro dash hdash
        rw [hd]
        simp only [refRun]
        rw [← hd, ← hl, ← hl3, ← hl5]
        by_cases hc : ((bs s).drop (i + 2)).head? = some 45
        · rw [decide_eq_true hc] at hdash
          subst hdash
          have hsz : i + 2 < s.size := by
            rcases Nat.lt_or_ge (i + 2) s.size with q | q
            · exact q
            · rw [drop_end s (i + 2) q] at hc; cases hc
          have go : ∀ r, Ev (fun k => scantlingref03_bytes.j4 k s ((i + 5 : Nat) : Int) nt (pairI ((bs s).drop i)) (pairI ((bs s).drop (i + 3))) (cls p).1 (cls p).2.1 (cls p).2.2.1 (cls p).2.2.2) r → Ev (fun k => scantlingref03_bytes.j3 k s ((i + 2 : Nat) : Int) nt (pairI ((bs s).drop i)) (pairI ((bs s).drop i)) true (cls p).1 (cls p).2.1 (cls p).2.2.1 (cls p).2.2.2) r := by
            intro r h
            refine Ev.step (f := fun k => (scantlingref03_pair.f k s ((i + 3 : Nat) : Int)).bind fun t252 => scantlingref03_bytes.j4 k s ((i + 5 : Nat) : Int) nt (pairI ((bs s).drop i)) t252 (cls p).1 (cls p).2.1 (cls p).2.2.1 (cls p).2.2.2) (fun k => by rw [scantlingref03_bytes.j3, if_pos rfl, hw21.out, hw23.out]) ?_
            exact Ev.bind (pair_eq s hs (i + 3) (by omega)) h
          cases hp : pairL ((bs s).drop i) with
          | none =>
            obtain ⟨r, h1, h2⟩ := refb_j4_no s ((i + 5 : Nat) : Int) nt (pairI ((bs s).drop i)) (pairI ((bs s).drop (i + 3))) p (.inl (by unfold pairI; rw [hp]; decide)) none rfl
            exact ⟨r, go r h1, h2⟩
          | some a =>
            have ha : pairI ((bs s).drop i) = (a : Int) := by unfold pairI; rw [hp]
            simp only [if_pos hc]
            cases hq : pairL ((bs s).drop (i + 3)) with
            | none =>
              obtain ⟨r, h1, h2⟩ := refb_j4_no s ((i + 5 : Nat) : Int) nt (pairI ((bs s).drop i)) (pairI ((bs s).drop (i + 3))) p (.inr (by rw [ha]; unfold pairI; rw [hq]; simp only; omega)) none rfl
              exact ⟨r, go r h1, h2⟩
            | some b =>
              have hb : pairI ((bs s).drop (i + 3)) = (b : Int) := by unfold pairI; rw [hq]
              simp only
              by_cases hab : a ≤ b
              · rw [if_pos hab]
                have hroom := pair_room hq
                obtain ⟨r, h1, h2⟩ := refb_j4_yes s hs (i + 5) (by omega) nt a b hab (pair_lt hq) p f (ih' (i + 5) (by omega)) (by omega)
                rw [← ha, ← hb] at h1
                exact ⟨r, go r h1, h2⟩
              · rw [if_neg hab]
                obtain ⟨r, h1, h2⟩ := refb_j4_no s ((i + 5 : Nat) : Int) nt (pairI ((bs s).drop i)) (pairI ((bs s).drop (i + 3))) p (.inr (by rw [ha, hb]; omega)) none rfl
                exact ⟨r, go r h1, h2⟩
        · rw [decide_eq_false hc] at hdash
          subst hdash
          have go : ∀ r, Ev (fun k => scantlingref03_bytes.j4 k s ((i + 2 : Nat) : Int) nt (pairI ((bs s).drop i)) (pairI ((bs s).drop i)) (cls p).1 (cls p).2.1 (cls p).2.2.1 (cls p).2.2.2) r → Ev (fun k => scantlingref03_bytes.j3 k s ((i + 2 : Nat) : Int) nt (pairI ((bs s).drop i)) (pairI ((bs s).drop i)) false (cls p).1 (cls p).2.1 (cls p).2.2.1 (cls p).2.2.2) r :=
            fun r h => Ev.step (fun k => by rw [scantlingref03_bytes.j3, if_neg (by decide)]) h
          cases hp : pairL ((bs s).drop i) with
          | none =>
            obtain ⟨r, h1, h2⟩ := refb_j4_no s ((i + 2 : Nat) : Int) nt (pairI ((bs s).drop i)) (pairI ((bs s).drop i)) p (.inl (by unfold pairI; rw [hp]; decide)) none rfl
            exact ⟨r, go r h1, h2⟩
          | some a =>
            have ha : pairI ((bs s).drop i) = (a : Int) := by unfold pairI; rw [hp]
            simp only [if_neg hc]
            have hroom := pair_room hp
            obtain ⟨r, h1, h2⟩ := refb_j4_yes s hs (i + 2) hroom nt a a (Nat.le_refl _) (pair_lt hp) p f (ih' (i + 2) (by omega)) (by omega)
            rw [← ha] at h1
            exact ⟨r, go r h1, h2⟩
      have hi0 : (i : Int) < (s.size : Int) := by omega
      by_cases h2 : i + 2 < s.size
      · have hbt : bt s ((i + 2 : Nat) : Int) = ((s.get! (i + 2)).toNat : Int) := bt_nat s (i + 2)
        have hdash : (bt s ((i + 2 : Nat) : Int) == 45) = decide (((bs s).drop (i + 2)).head? = some 45) := by
          rw [hbt, drop_get s (i + 2) h2, List.head?_cons, Bool.eq_iff_iff, beq_iff_eq, decide_eq_true_eq]
          constructor
          · intro q
            congr 1
            apply UInt8.toNat_inj.1
            show (s.get! (i + 2)).toNat = 45
            omega
          · intro q
            rw [Option.some.inj q]; rfl
        obtain ⟨r, h1, h3⟩ := j3 _ hdash
        refine ⟨r, ?_, h3⟩
        have g1 : ((i + 2 : Nat) : Int) < (s.size : Int) := by omega
        have g2 : (0 : Int) ≤ ((i + 2 : Nat) : Int) := by omega
        refine Ev.step (f := fun k => (scantlingref03_pair.f k s (i : Int)).bind fun t251 => scantlingref03_bytes.j3 k s ((i + 2 : Nat) : Int) nt t251 t251 (bt s ((i + 2 : Nat) : Int) == 45) (cls p).1 (cls p).2.1 (cls p).2.2.1 (cls p).2.2.2) (fun k => by rw [scantlingref03_bytes.l0, if_pos hi0, hw2.out]; simp only [if_pos g1, if_pos g2]) ?_
        exact Ev.bind hpair h1
      · obtain ⟨r, h1, h3⟩ := j3 false (by rw [drop_end s (i + 2) (by omega)]; rfl)
        refine ⟨r, ?_, h3⟩
        have g1 : ¬ ((i + 2 : Nat) : Int) < (s.size : Int) := by omega
        refine Ev.step (f := fun k => (scantlingref03_pair.f k s (i : Int)).bind fun t251 => scantlingref03_bytes.j3 k s ((i + 2 : Nat) : Int) nt t251 t251 false (cls p).1 (cls p).2.1 (cls p).2.2.1 (cls p).2.2.2) (fun k => by rw [scantlingref03_bytes.l0, if_pos hi0, hw2.out]; simp only [if_neg g1]) ?_
        exact Ev.bind hpair h1
    · rw [drop_end s i (by omega)]
      refine ⟨_, refb_end s i (by omega) nt p, ?_⟩
      simp only [refRun, Out]
theorem refbytes_eq (s : ByteArray) (hs : s.size ≤ 3000) : ∃ r, Ev (fun k => scantlingref03_bytes.f k s) r ∧ Out (decide ((bs s).head? = some 94)) (bytesS (bs s)) r := by
  have h0 : cls (fun _ => false) = (0, 0, 0, 0) := cls_none
  have run : ∀ i, i ≤ s.size → (bs s).drop i = strip94 (bs s) → ∀ nt, ∃ r, Ev (fun k => scantlingref03_bytes.j1 k s (i : Int) nt) r ∧ Out nt (bytesS (bs s)) r := by
    intro i hi hdr nt
    obtain ⟨r, h1, h2⟩ := refb_loop s (by omega) nt (2 * (s.size - i) + 1) (2 * (s.size - i) + 1) i (Nat.le_refl _) hi (Nat.le_refl _) (fun _ => false)
    rw [h0] at h1
    refine ⟨r, Ev.step (fun k => by rw [scantlingref03_bytes.j1]) h1, ?_⟩
    have e : bytesS (bs s) = refRun (2 * (s.size - i) + 1) ((bs s).drop i) (fun _ => false) := by
      unfold bytesS
      rw [hdr]
      by_cases he : strip94 (bs s) = []
      · rw [if_pos he, he]; rfl
      · rw [if_neg he]
        refine (run_fold _ _ _ _ (Nat.le_refl _) he ?_).symm
        rw [← hdr, List.length_drop, bs_len]
        omega
    rw [e]
    exact h2
  have hj : ∀ (b : Bool), b = decide ((bs s).head? = some 94) → ∃ r, Ev (fun k => scantlingref03_bytes.j0 k s 0 false b) r ∧ Out b (bytesS (bs s)) r := by
    intro b hb
    by_cases hc : (bs s).head? = some 94
    · rw [decide_eq_true hc] at hb
      subst hb
      have hpos : 1 ≤ s.size := by
        rcases Nat.lt_or_ge 0 s.size with q | q
        · exact q
        · have : bs s = [] := List.eq_nil_of_length_eq_zero (by rw [bs_len]; omega)
          rw [this] at hc; cases hc
      obtain ⟨r, h1, h2⟩ := run 1 hpos (by unfold strip94; rw [if_pos hc]) true
      exact ⟨r, Ev.step (fun k => by rw [scantlingref03_bytes.j0, if_pos rfl]; rfl) h1, h2⟩
    · rw [decide_eq_false hc] at hb
      subst hb
      obtain ⟨r, h1, h2⟩ := run 0 (Nat.zero_le _) (by unfold strip94; rw [if_neg hc]; rfl) false
      exact ⟨r, Ev.step (fun k => by rw [scantlingref03_bytes.j0, if_neg (by decide)]; rfl) h1, h2⟩
  unfold scantlingref03_bytes.f
  by_cases hp : 0 < s.size
  · have p1 : (s.size : Int) > 0 := by omega
    have hb0 : bt s 0 = ((s.get! 0).toNat : Int) := bt_nat s 0
    simp only [if_pos p1, if_pos (show 0 < (s.size : Int) from p1), hb0]
    have e : (((s.get! 0).toNat : Int) == 94) = decide ((bs s).head? = some 94) := by
      rw [List.head?_eq_getElem?, bs_get s 0 hp, Bool.eq_iff_iff, beq_iff_eq, decide_eq_true_eq]
      constructor
      · intro q
        congr 1
        apply UInt8.toNat_inj.1
        show (s.get! 0).toNat = 94
        omega
      · intro q
        rw [Option.some.inj q]; rfl
    rw [e]
    exact hj _ rfl
  · have p1 : ¬ (s.size : Int) > 0 := by omega
    simp only [if_neg p1]
    have hz : bs s = [] := List.eq_nil_of_length_eq_zero (by rw [bs_len]; omega)
    have e : decide ((bs s).head? = some 94) = false := by rw [hz]; rfl
    obtain ⟨r, h1, h2⟩ := hj false e.symm
    rw [e]
    exact ⟨r, h1, h2⟩
end Go.Proofs.YtepnbnpgifpfbaaDoor.G
