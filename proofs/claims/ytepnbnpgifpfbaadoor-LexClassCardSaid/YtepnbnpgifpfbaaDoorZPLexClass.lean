/- Lemmas and walks of this claim: PLexClass. -/
import Derived.Test.YtepnbnpgifpfbaaDoorZGScantlinglaw03LexClass
import Derived.Test.YtepnbnpgifpfbaaDoorZPcLexClass
set_option linter.unusedVariables false
set_option linter.unusedSimpArgs false
namespace Go.Proofs.YtepnbnpgifpfbaaDoor.G
open Go.RowKit Go.Proofs.YtepnbnpgifpfbaaDoorW.PrintWords Go.Proofs.YtepnbnpgifpfbaaDoorW.PrintMore
theorem awake_true : scantlinglaw03_awake.f = some true := by kernel_rfl
theorem bs_append (a b : ByteArray) : bs (a ++ b) = bs a ++ bs b := by simp [bs]
theorem size_app (a b : ByteArray) : (a ++ b).size = a.size + b.size := ByteArray.size_append
theorem u8_nat {x : Int} (h : (Lit.int .u8 x).wf = true) : ∃ a : Nat, x = (a : Int) ∧ a ≤ 255 := by
  simp only [Lit.wf, IntKind.min, IntKind.max, IntKind.signed, IntKind.bits, Bool.and_eq_true, decide_eq_true_eq] at h
  simp at h
  exact ⟨x.toNat, by omega, by omega⟩
def hexs : ByteArray := ⟨#[48, 49, 50, 51, 52, 53, 54, 55, 56, 57, 97, 98, 99, 100, 101, 102]⟩
def hx (n : Nat) : UInt8 := hexs.get! n
theorem hx_hex : ∀ n, n < 16 → hexV (hx n) = some n := by
  intro n hn
  have : ∀ m : Fin 16, hexV (hx m.val) = some m.val := by decide +kernel
  exact this ⟨n, hn⟩
theorem hx_ne : ∀ n, n < 16 → hx n ≠ 62 ∧ hx n ≠ 94 ∧ hx n ≠ 44 ∧ hx n ≠ 45 := by
  intro n hn
  have : ∀ m : Fin 16, hx m.val ≠ 62 ∧ hx m.val ≠ 94 ∧ hx m.val ≠ 44 ∧ hx m.val ≠ 45 := by decide +kernel
  exact this ⟨n, hn⟩
def X (a : Nat) : List UInt8 := [hx (a / 16), hx (a % 16)]
def xs (a : Nat) : ByteArray := ⟨#[hx (a / 16), hx (a % 16)]⟩
theorem bs_xs (a : Nat) : bs (xs a) = X a := rfl
theorem xs_size (a : Nat) : (xs a).size = 2 := rfl
theorem str_hex (a : Nat) : strOfNums [bt (⟨#[48, 49, 50, 51, 52, 53, 54, 55, 56, 57, 97, 98, 99, 100, 101, 102]⟩ : ByteArray) ((a / 16 : Nat) : Int), bt (⟨#[48, 49, 50, 51, 52, 53, 54, 55, 56, 57, 97, 98, 99, 100, 101, 102]⟩ : ByteArray) ((a % 16 : Nat) : Int)] = xs a := by
  rw [bt_nat, bt_nat]
  unfold strOfNums xs
  simp only [List.map_cons, List.map_nil, bN, Int.toNat_natCast, UInt8.ofNat_toNat]
  rfl
theorem X_not (a : Nat) (ha : a ≤ 255) : (62 : UInt8) ∉ X a ∧ (94 : UInt8) ∉ X a ∧ (44 : UInt8) ∉ X a ∧ (45 : UInt8) ∉ X a := by
  have h1 := hx_ne (a / 16) (by omega)
  have h2 := hx_ne (a % 16) (by omega)
  unfold X
  simp only [List.mem_cons, List.not_mem_nil, or_false, not_or]
  exact ⟨⟨h1.1.symm, h2.1.symm⟩, ⟨h1.2.1.symm, h2.2.1.symm⟩, ⟨h1.2.2.1.symm, h2.2.2.1.symm⟩, ⟨h1.2.2.2.symm, h2.2.2.2.symm⟩⟩
theorem X_hex (a : Nat) (ha : a ≤ 255) : hexS (X a) = some a := by
  show pairL [hx (a / 16), hx (a % 16)] = some a
  simp only [pairL]
  rw [hx_hex _ (by omega), hx_hex _ (by omega)]
  show some (16 * (a / 16) + a % 16) = some a
  congr 1
  omega
theorem X_row (a : Nat) (ha : a ≤ 255) : rowS (X a) = some (a, a) := by
  unfold rowS
  rw [if_neg (X_not a ha).2.2.2, X_hex a ha]
theorem from1_self (c : UInt8) (l r : List UInt8) (h : c ∉ l) : from1 c (l ++ c :: r) = c :: r := by
  have h1 := ahead_from c (l ++ c :: r)
  rw [ahead_self c l r h] at h1
  exact List.append_cancel_left h1
theorem XX_row (a b : Nat) (ha : a ≤ 255) (hb : b ≤ 255) : rowS (X a ++ 45 :: X b) = if a ≤ b then some (a, b) else none := by
  unfold rowS
  rw [if_pos (by simp), ahead_self 45 _ _ (X_not a ha).2.2.2, from1_self 45 _ _ (X_not a ha).2.2.2, X_hex a ha]
  simp only [List.drop_succ_cons, List.drop_zero]
  rw [X_hex b hb]
theorem ahead_out {c : UInt8} {l : List UInt8} (h : c ∉ l) : ahead c l = l := by
  rcases from1_cases c l with ⟨_, _, h3⟩ | ⟨h1, _⟩
  · exact h3
  · exact absurd h1 h
theorem from1_out {c : UInt8} {l : List UInt8} (h : c ∉ l) : from1 c l = [] := by
  rcases from1_cases c l with ⟨_, h2, _⟩ | ⟨h1, _⟩
  · exact h2
  · exact absurd h1 h
theorem pieces_one {l : List UInt8} (h : (44 : UInt8) ∉ l) : pieces 44 l = [l] := by
  rw [pieces_eq, ahead_out h, from1_out h]
theorem pieces_more {l : List UInt8} (r : List UInt8) (h : (44 : UInt8) ∉ l) : pieces 44 (l ++ 44 :: r) = l :: pieces 44 r := by
  rw [pieces_eq, ahead_self 44 l r h, from1_self 44 l r h]
theorem strip_X (a : Nat) (ha : a ≤ 255) (r : List UInt8) : strip94 (X a ++ r) = X a ++ r := by
  unfold strip94
  rw [if_neg]
  intro h
  have h2 : hx (a / 16) = 94 := by simpa [X] using h
  exact (hx_ne (a / 16) (by omega)).2.1 h2
theorem head_X (a : Nat) (ha : a ≤ 255) (r : List UInt8) : decide ((X a ++ r).head? = some 94) = false := by
  rw [decide_eq_false_iff_not]
  intro h
  have h2 : hx (a / 16) = 94 := by simpa [X] using h
  exact (hx_ne (a / 16) (by omega)).2.1 h2
theorem add_none (a b : Nat) : addR (fun _ => false) a b = rowP a b := by funext i; simp [addR]
theorem bytes_X (a : Nat) (ha : a ≤ 255) : bytesS (X a) = some (rowP a a) := by
  have e : X a = X a ++ [] := (List.append_nil _).symm
  have es : strip94 (X a) = X a := by rw [e, strip_X a ha]
  unfold bytesS
  rw [es, if_neg (by unfold X; simp), pieces_one (X_not a ha).2.2.1]
  simp only [foldP, X_row a ha, add_none]
theorem bytes_not (a : Nat) (ha : a ≤ 255) : bytesS (94 :: X a) = some (rowP a a) := by
  have es : strip94 (94 :: X a) = X a := rfl
  unfold bytesS
  rw [es, if_neg (by unfold X; simp), pieces_one (X_not a ha).2.2.1]
  simp only [foldP, X_row a ha, add_none]
theorem bytes_row (a b : Nat) (ha : a ≤ 255) (hb : b ≤ 255) : bytesS (X a ++ 45 :: X b) = if a ≤ b then some (rowP a b) else none := by
  have h44 : (44 : UInt8) ∉ X a ++ 45 :: X b := by
    rw [List.mem_append, List.mem_cons]
    rintro (q | q | q)
    · exact (X_not a ha).2.2.1 q
    · exact absurd q (by decide)
    · exact (X_not b hb).2.2.1 q
  unfold bytesS
  rw [strip_X a ha, if_neg (by unfold X; simp), pieces_one h44]
  simp only [foldP, XX_row a b ha hb]
  by_cases h : a ≤ b
  · rw [if_pos h, if_pos h]
    simp only [add_none]
  · rw [if_neg h, if_neg h]
theorem bytes_three (a b : Nat) (ha : a ≤ 255) (hb : b ≤ 255) : bytesS (X a ++ 44 :: (X b ++ 44 :: X a)) = some (addR (addR (rowP a a) b b) a a) := by
  unfold bytesS
  rw [strip_X a ha, if_neg (by unfold X; simp), pieces_more _ (X_not a ha).2.2.1, pieces_more _ (X_not b hb).2.2.1, pieces_one (X_not a ha).2.2.1]
  simp only [foldP, X_row a ha, X_row b hb, add_none]
theorem one_cls (c : List UInt8) (h : (62 : UInt8) ∉ c) : oneS (60 :: (c ++ [62])) = (match bytesS c with | none => errT 2 | some q => (tkOf 1 (cls (Qn (decide (c.head? = some 94)) q)) noT 0 0, c.length + 2, 0)) := by
  have ha : ahead 62 (c ++ [62]) = c := ahead_self 62 c [] h
  have h1 : shortK ((60 : UInt8).toNat : Int) = 0 := rfl
  simp only [oneS]
  rw [if_neg (by rw [h1]; decide), if_neg (by decide), if_pos trivial, if_pos (by simp), ha]
  rfl
theorem read_cls (c : List UInt8) (h : (62 : UInt8) ∉ c) (q : Nat → Bool) (hq : bytesS c = some q) : readA (60 :: (c ++ [62])) = ([tokAt (tkOf 1 (cls (Qn (decide (c.head? = some 94)) q)) noT 0 0) 0, endAt (c.length + 2)], 0, 0) := by
  have o := one_cls c h
  rw [hq] at o
  simp only at o
  have r : Rd (60 :: (c ++ [62])) 0 [tokAt (tkOf 1 (cls (Qn (decide (c.head? = some 94)) q)) noT 0 0) 0] none := by
    have h1 := Rd.tok (c := 60) (l := c ++ [62]) (i := 0) (T := []) (q := none) (by decide) (by rw [o]) (by
      rw [o]
      have : (60 :: (c ++ [62])).drop (c.length + 2) = [] := List.drop_eq_nil_of_le (by simp)
      simp only
      rw [this]
      exact .nil _)
    rw [o] at h1
    exact h1
  rw [readA_rd r]
  have : (60 :: (c ++ [62])).length = c.length + 2 := by simp
  rw [this]
  rfl
theorem read_clsE (c : List UInt8) (h : (62 : UInt8) ∉ c) (hq : bytesS c = none) : readA (60 :: (c ++ [62])) = ([], 2, 0) := by
  have o := one_cls c h
  rw [hq] at o
  simp only at o
  have r : Rd (60 :: (c ++ [62])) 0 [] (some (2, 0)) := by
    have h1 := Rd.err (c := 60) (l := c ++ [62]) (i := 0) (by decide) (by rw [o]; decide)
    rw [o] at h1
    exact h1
  rw [readA_rd r]
  rfl
def tkC (p : Nat → Bool) : S35 := tokAt (tkOf 1 (cls p) noT 0 0) 0
theorem class_j0 (a b : Nat) (ha : a ≤ 255) (hb : b ≤ 255) (e1 e2 e4 : S35) (L : List S35) (w : Int) (h : w = 0 → a ≤ b → ∃ e, L = [tkC (rowP a b), e]) (hw : w = 0 → a ≤ b) :
    Ev (fun k => scantlinglaw03_LexClass.j0 k (a : Int) (b : Int) [tkC (rowP a a), e1] [tkC (fun i => !rowP a a i), e2] L w [tkC (fun i => rowP a a i || rowP b b i), e4] false) true := by
  have r1 : rd_T35 [tkC (rowP a a), e1] 0 = tkC (rowP a a) := rfl
  have r2 : rd_T35 [tkC (fun i => !rowP a a i), e2] 0 = tkC (fun i => !rowP a a i) := rfl
  have r4 : rd_T35 [tkC (fun i => rowP a a i || rowP b b i), e4] 0 = tkC (fun i => rowP a a i || rowP b b i) := rfl
  have f0 : ∀ p, (tkC p).f2.f0 = (cls p).1 := fun p => rfl
  have f1 : ∀ p, (tkC p).f2.f1 = (cls p).2.1 := fun p => rfl
  have f2 : ∀ p, (tkC p).f2.f2 = (cls p).2.2.1 := fun p => rfl
  have f3 : ∀ p, (tkC p).f2.f3 = (cls p).2.2.2 := fun p => rfl
  have l2 : ∀ x y : S35, ((0 : Int) < (([x, y] : List S35).length : Int)) = True := fun x y => eq_true (by simp)
  suffices H : Ev (fun k => (scantlingref01_Row.f k (a : Int) (a : Int)).bind fun bt258 => (if (((cls (rowP a a)).1) == bt258.1 && (((cls (rowP a a)).2.1) == bt258.2.1 && (((cls (rowP a a)).2.2.1) == bt258.2.2.1 && (((cls (rowP a a)).2.2.2) == bt258.2.2.2)))) = true then ((scantlingref01_Not.f k ((cls (rowP a a)).1) ((cls (rowP a a)).2.1) ((cls (rowP a a)).2.2.1) ((cls (rowP a a)).2.2.2)).bind fun bt264 => (if (((cls (fun i => !rowP a a i)).1) == bt264.1 && (((cls (fun i => !rowP a a i)).2.1) == bt264.2.1 && (((cls (fun i => !rowP a a i)).2.2.1) == bt264.2.2.1 && (((cls (fun i => !rowP a a i)).2.2.2) == bt264.2.2.2)))) = true then ((scantlingref01_Row.f k (a : Int) (a : Int)).bind fun bt269 => ((scantlingref01_Row.f k (b : Int) (b : Int)).bind fun bt273 => ((scantlingref01_Join.f k bt269.1 bt269.2.1 bt269.2.2.1 bt269.2.2.2 bt273.1 bt273.2.1 bt273.2.2.1 bt273.2.2.2).bind fun bt277 => (if (((cls (fun i => rowP a a i || rowP b b i)).1) == bt277.1 && (((cls (fun i => rowP a a i || rowP b b i)).2.1) == bt277.2.1 && (((cls (fun i => rowP a a i || rowP b b i)).2.2.1) == bt277.2.2.1 && (((cls (fun i => rowP a a i || rowP b b i)).2.2.2) == bt277.2.2.2)))) = true then (if w = 0 then (if (L.length : Int) = 2 then (if 0 < (L.length : Int) then ((scantlingref01_Row.f k (a : Int) (b : Int)).bind fun bt282 => (some (((rd_T35 L 0).f2.f0) == bt282.1 && (((rd_T35 L 0).f2.f1) == bt282.2.1 && (((rd_T35 L 0).f2.f2) == bt282.2.2.1 && (((rd_T35 L 0).f2.f3) == bt282.2.2.2)))))) else (none)) else (none)) else (some true)) else (none))))) else (none))) else (none))) true by
    refine Ev.step (fun k => ?_) H
    rw [scantlinglaw03_LexClass.j0, if_neg (by decide)]
    simp only [r1, r2, r4, f0, f1, f2, f3, l2, if_true]
  refine Ev.bind (row_eq a a ha ha) ?_
  simp only [beq_self_eq_true, Bool.and_self, if_true]
  refine Ev.bind (refnot_eq (rowP a a)) ?_
  simp only [beq_self_eq_true, Bool.and_self, if_true]
  refine Ev.bind (row_eq a a ha ha) (Ev.bind (row_eq b b hb hb) (Ev.bind (refjoin_eq (rowP a a) (rowP b b)) ?_))
  simp only [beq_self_eq_true, Bool.and_self, if_true]
  by_cases h0 : w = 0
  · obtain ⟨e, rfl⟩ := h h0 (hw h0)
    have r3 : rd_T35 [tkC (rowP a b), e] 0 = tkC (rowP a b) := rfl
    have l3 : ((([tkC (rowP a b), e] : List S35).length : Int) = 2) = True := eq_true rfl
    simp only [h0, if_true, l2, l3, r3, f0, f1, f2, f3]
    refine Ev.bind (row_eq a b hb ha) ?_
    simp only [beq_self_eq_true, Bool.and_self]
    exact Ev.now _
  · simp only [h0, if_false]
    exact Ev.now _
set_option maxHeartbeats 2000000 in
theorem LexClass : scantlinglaw03_LexClass.Pure := by
  intro x0 x1 hx0 hx1
  refine Ev.rounds (g := fun k => scantlinglaw03_LexClass.f k x0 x1) ?_
  obtain ⟨a, rfl, ha⟩ := u8_nat hx0
  obtain ⟨b, rfl, hb⟩ := u8_nat hx1
  have hd : ∀ c : Nat, c ≤ 255 → Int.tdiv (c : Int) 16 % 256 = ((c / 16 : Nat) : Int) := by
    intro c hc
    rw [Int.tdiv_eq_ediv_of_nonneg (by omega)]
    omega
  have hm : ∀ c : Nat, Int.tmod (c : Int) 16 = ((c % 16 : Nat) : Int) := by
    intro c
    rw [Int.tmod_eq_emod_of_nonneg (by omega)]
    omega
  have n0 : ∀ n : Nat, ((0 : Int) ≤ (n : Int)) = True := fun n => eq_true (by omega)
  have nd : ∀ c : Nat, c ≤ 255 → (((c / 16 : Nat) : Int) < 16) = True := fun c hc => eq_true (by omega)
  have nm : ∀ c : Nat, (((c % 16 : Nat) : Int) < 16) = True := fun c => eq_true (by omega)
  have i1 : (⟨#[60]⟩ : ByteArray).size = 1 := rfl
  have i2 : (⟨#[62]⟩ : ByteArray).size = 1 := rfl
  have i3 : (⟨#[60, 94]⟩ : ByteArray).size = 2 := rfl
  have i4 : (⟨#[45]⟩ : ByteArray).size = 1 := rfl
  have i5 : (⟨#[44]⟩ : ByteArray).size = 1 := rfl
  have q1 := X_not a ha
  have q2 := X_not b hb
  unfold scantlinglaw03_LexClass.f
  simp only [awake_true, Option.bind_some, if_true, hd a ha, hd b hb, hm, n0, nd a ha, nd b hb, nm, str_hex, size_app, xs_size, i1, i2, i3, i4, i5, Nat.reduceAdd, Nat.reduceLeDiff]
  have b1 : bs (((⟨#[60]⟩ : ByteArray) ++ xs a) ++ (⟨#[62]⟩ : ByteArray)) = 60 :: (X a ++ [62]) := by rw [bs_append, bs_append, bs_xs]; rfl
  have b2 : bs (((⟨#[60, 94]⟩ : ByteArray) ++ xs a) ++ (⟨#[62]⟩ : ByteArray)) = 60 :: ((94 :: X a) ++ [62]) := by rw [bs_append, bs_append, bs_xs]; rfl
  have b3 : bs (((((⟨#[60]⟩ : ByteArray) ++ xs a) ++ (⟨#[45]⟩ : ByteArray)) ++ xs b) ++ (⟨#[62]⟩ : ByteArray)) = 60 :: ((X a ++ 45 :: X b) ++ [62]) := by rw [bs_append, bs_append, bs_append, bs_append, bs_xs, bs_xs]; rfl
  have b4 : bs (((((((⟨#[60]⟩ : ByteArray) ++ xs a) ++ (⟨#[44]⟩ : ByteArray)) ++ xs b) ++ (⟨#[44]⟩ : ByteArray)) ++ xs a) ++ (⟨#[62]⟩ : ByteArray)) = 60 :: ((X a ++ 44 :: (X b ++ 44 :: X a)) ++ [62]) := by rw [bs_append, bs_append, bs_append, bs_append, bs_append, bs_append, bs_xs, bs_xs]; rfl
  have e1 := read_eq (((⟨#[60]⟩ : ByteArray) ++ xs a) ++ (⟨#[62]⟩ : ByteArray)) (by simp only [size_app, xs_size, i1, i2]; omega)
  have e2 := read_eq (((⟨#[60, 94]⟩ : ByteArray) ++ xs a) ++ (⟨#[62]⟩ : ByteArray)) (by simp only [size_app, xs_size, i2, i3]; omega)
  have e3 := read_eq (((((⟨#[60]⟩ : ByteArray) ++ xs a) ++ (⟨#[45]⟩ : ByteArray)) ++ xs b) ++ (⟨#[62]⟩ : ByteArray)) (by simp only [size_app, xs_size, i1, i2, i4]; omega)
  have e4 := read_eq (((((((⟨#[60]⟩ : ByteArray) ++ xs a) ++ (⟨#[44]⟩ : ByteArray)) ++ xs b) ++ (⟨#[44]⟩ : ByteArray)) ++ xs a) ++ (⟨#[62]⟩ : ByteArray)) (by simp only [size_app, xs_size, i1, i2, i5]; omega)
  have m2 : (62 : UInt8) ∉ (94 :: X a) := by
    rw [List.mem_cons]
    rintro (q | q)
    · exact absurd q (by decide)
    · exact q1.1 q
  have m3 : (62 : UInt8) ∉ X a ++ 45 :: X b := by
    rw [List.mem_append, List.mem_cons]
    rintro (q | q | q)
    · exact q1.1 q
    · exact absurd q (by decide)
    · exact q2.1 q
  have m4 : (62 : UInt8) ∉ X a ++ 44 :: (X b ++ 44 :: X a) := by
    rw [List.mem_append, List.mem_cons, List.mem_append, List.mem_cons]
    rintro (q | q | q | q | q)
    · exact q1.1 q
    · exact absurd q (by decide)
    · exact q2.1 q
    · exact absurd q (by decide)
    · exact q1.1 q
  have hh1 : decide ((X a).head? = some 94) = false := by
    have h := head_X a ha []
    rw [List.append_nil] at h
    exact h
  rw [b1, read_cls _ q1.1 _ (bytes_X a ha), hh1] at e1
  rw [b2, read_cls _ m2 _ (bytes_not a ha)] at e2
  rw [b4, read_cls _ m4 _ (bytes_three a b ha hb), head_X a ha] at e4
  rw [b3] at e3
  have k1 : tokAt (tkOf 1 (cls (Qn false (rowP a a))) noT 0 0) 0 = tkC (rowP a a) := rfl
  have k2 : tokAt (tkOf 1 (cls (Qn (decide ((94 :: X a).head? = some 94)) (rowP a a))) noT 0 0) 0 = tkC (fun i => !rowP a a i) := rfl
  have k0 : cls (Qn false (addR (addR (rowP a a) b b) a a)) = cls (fun i => rowP a a i || rowP b b i) := by
    refine cls_congr fun i _ => ?_
    show ((rowP a a i || rowP b b i) || rowP a a i) = _
    cases rowP a a i <;> cases rowP b b i <;> rfl
  have k4 : tokAt (tkOf 1 (cls (Qn false (addR (addR (rowP a a) b b) a a))) noT 0 0) 0 = tkC (fun i => rowP a a i || rowP b b i) := by rw [k0]; rfl
  rw [k1] at e1
  rw [k2] at e2
  rw [k4] at e4
  have l2 : ∀ x y : S35, ((([x, y] : List S35).length : Int) = 2) = True := fun x y => eq_true rfl
  by_cases hab : a ≤ b
  · rw [read_cls _ m3 _ (by rw [bytes_row a b ha hb, if_pos hab]), head_X a ha] at e3
    have k3 : tokAt (tkOf 1 (cls (Qn false (rowP a b))) noT 0 0) 0 = tkC (rowP a b) := rfl
    rw [k3] at e3
    refine Ev.bind e1 (Ev.bind e2 (Ev.bind e3 (Ev.bind e4 ?_)))
    have hc : ((((0 : Int) == 0) != decide ((a : Int) ≤ (b : Int))) = true) = False := by
      rw [decide_eq_true (show (a : Int) ≤ (b : Int) by omega)]
      exact eq_false (by decide)
    simp only [if_true, l2, hc, if_false]
    exact class_j0 a b ha hb _ _ _ _ 0 (fun _ _ => ⟨_, rfl⟩) (fun _ => hab)
  · rw [read_clsE _ m3 (by rw [bytes_row a b ha hb, if_neg hab])] at e3
    refine Ev.bind e1 (Ev.bind e2 (Ev.bind e3 (Ev.bind e4 ?_)))
    have hc : ((((2 : Int) == 0) != decide ((a : Int) ≤ (b : Int))) = true) = False := by
      rw [decide_eq_false (show ¬ (a : Int) ≤ (b : Int) by omega)]
      exact eq_false (by decide)
    have h20 : ((2 : Int) = 0) = False := eq_false (by decide)
    have h22 : ((2 : Int) != 2) = false := rfl
    simp only [if_true, l2, hc, if_false, h20, h22]
    exact class_j0 a b ha hb _ _ _ _ 2 (fun h => absurd h (by decide)) (fun h => absurd h (by decide))
end Go.Proofs.YtepnbnpgifpfbaaDoor.G
