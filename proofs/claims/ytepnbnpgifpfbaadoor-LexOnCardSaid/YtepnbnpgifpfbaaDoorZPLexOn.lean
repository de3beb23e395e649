/- Lemmas and walks of this claim: PLexOn. -/
import Derived.Test.YtepnbnpgifpfbaaDoorZGScantlinglaw03LexOn
import Derived.Test.YtepnbnpgifpfbaaDoorZPcLexOn
set_option linter.unusedVariables false
set_option linter.unusedSimpArgs false
namespace Go.Proofs.YtepnbnpgifpfbaaDoor.G
open Go.RowKit Go.Proofs.YtepnbnpgifpfbaaDoorW.PrintWords Go.Proofs.YtepnbnpgifpfbaaDoorW.PrintMore
theorem awake_true : scantlinglaw03_awake.f = some true := by kernel_rfl
theorem bs_append (a b : ByteArray) : bs (a ++ b) = bs a ++ bs b := by simp [bs]
theorem size_app (a b : ByteArray) : (a ++ b).size = a.size + b.size := ByteArray.size_append
theorem rd35_nat (L : List S35) (i : Nat) (h : i < L.length) : rd_T35 L (i : Int) = L[i] := by
  unfold rd_T35
  rw [Int.toNat_natCast, List.getD_eq_getElem?_getD, List.getElem?_eq_getElem h]
  rfl
theorem on_l1 (L2 C : List S35) (n : Nat) (hn : n ≤ 4000) (hL : ∀ t ∈ L2, ∃ p : Nat, t.f1 = (p : Int) ∧ p ≤ 4000) (hLl : L2.length ≤ 4000) (b : Bool) : ∀ (d i : Nat) (out : List S35), i + d = L2.length → out.length + d < 1759218604441 →
    Ev (fun k => scantlingref03_Same.f k C (out ++ (L2.drop i).map (moveT n))) b → Ev (fun k => scantlinglaw03_LexOn.l1 k L2 (n : Int) C 0 out (i : Int)) b
  | 0, i, out, h, ho, hs => by
    rw [List.drop_eq_nil_of_le (by omega), List.map_nil, List.append_nil] at hs
    refine Ev.step (f := fun k => (scantlingref03_Same.f k C out).bind fun t358 => some t358) (fun k => ?_) (Ev.bind hs (Ev.now _))
    rw [scantlinglaw03_LexOn.l1, if_neg (by omega), if_pos rfl]
  | d + 1, i, out, h, ho, hs => by
    have hi : i < L2.length := by omega
    rw [List.drop_eq_getElem_cons hi, List.map_cons] at hs
    have hs' : Ev (fun k => scantlingref03_Same.f k C ((out ++ [moveT n L2[i]]) ++ (L2.drop (i + 1)).map (moveT n))) b := by
      rw [List.append_assoc]
      exact hs
    have h1 := on_l1 L2 C n hn hL hLl b d (i + 1) (out ++ [moveT n L2[i]]) (by omega) (by rw [List.length_append, List.length_singleton]; omega) hs'
    obtain ⟨p, hp, hpl⟩ := hL _ (List.getElem_mem hi)
    have hout : out.length < 1759218604441 := by omega
    have hw1 := Aside0.mk (show wrap64 (L2[i].f1 + (n : Int)) = L2[i].f1 + (n : Int) by rw [hp]; exact w64 (by omega) (by omega))
    have hw2 := Aside0.mk (show wrap64 ((i : Int) + 1) = ((i + 1 : Nat) : Int) from w64 (by omega) (by omega))
    refine Ev.step (fun k => ?_) h1
    rw [scantlinglaw03_LexOn.l1, if_pos (by omega), if_pos (by omega), if_pos hout, rd35_nat _ _ hi, hw1.out, hw2.out]
    rfl
theorem outOf_none (T : List S35) (e : Nat) : outOf [] T e none = (T ++ [endAt e], 0, 0) := by simp [outOf]
theorem moveT_end (n e : Nat) : moveT n (endAt e) = endAt (e + n) := by unfold moveT endAt; simp
theorem LexOn : scantlinglaw03_LexOn.Pure := by
  intro s t x2 hs ht hx2
  refine Ev.rounds (g := fun k => scantlinglaw03_LexOn.f k s t x2) ?_
  have hx : 0 ≤ x2 ∧ x2 ≤ 255 := by
    have h := hx2
    simp only [Lit.wf, IntKind.min, IntKind.max, IntKind.signed, IntKind.bits, Bool.and_eq_true, decide_eq_true_eq] at h
    simp at h
    omega
  have late : Ev (fun k => scantlinglaw03_LexOn.j0 k s t x2 true) true := Ev.step (f := fun _ => some true) (fun k => by rw [scantlinglaw03_LexOn.j0, if_pos rfl, awake_true]; rfl) (Ev.now _)
  unfold scantlinglaw03_LexOn.f
  simp only [awake_true, Option.bind_some, if_true]
  by_cases h1 : s.size ≤ 1000
  case neg =>
    simp only [if_pos (show (s.size : Int) > 1000 by omega)]
    exact late
  simp only [if_neg (show ¬ (s.size : Int) > 1000 by omega)]
  by_cases h2 : t.size ≤ 1000
  case neg =>
    rw [show decide ((t.size : Int) > 1000) = true from decide_eq_true (by omega)]
    exact late
  rw [show decide ((t.size : Int) > 1000) = false from decide_eq_false (by omega)]
  obtain ⟨T1, q1, r1, a1⟩ := rd_of (bs s)
  obtain ⟨T2, q2, r2, a2⟩ := rd_of (bs t)
  have e1 := read_eq s (by omega)
  have e2 := read_eq t (by omega)
  rw [a1] at e1
  rw [a2] at e2
  refine Ev.step (f := fun k => (lex_Read.f k s).bind fun bt328 => ((lex_Read.f k t).bind fun bt333 => (if bt328.2.1 = 0 then (scantlinglaw03_LexOn.j1 k s t x2 bt328.1 bt328.2.1 bt333.1 bt333.2.1 bt333.2.2 ((bt328.1.length : Int) == 0)) else (scantlinglaw03_LexOn.j1 k s t x2 bt328.1 bt328.2.1 bt333.1 bt333.2.1 bt333.2.2 true)))) (fun k => by rw [scantlinglaw03_LexOn.j0, if_neg (by decide)]) ?_
  refine Ev.bind e1 (Ev.bind e2 ?_)
  cases q1 with
  | some q1 =>
    obtain ⟨w, p⟩ := q1
    have hw := (rd_fault r1 w p rfl)
    obtain ⟨_, _, _, _, hw0, _⟩ := hw
    have hwf := eq_false hw0
    simp only [outOf, hwf, if_false]
    refine Ev.step (f := fun _ => some true) (fun k => ?_) (Ev.now _)
    rw [scantlinglaw03_LexOn.j1, if_pos rfl]
    have : (w != 0) = true := by rw [bne_iff_ne]; exact hw0
    rw [this]
  | none =>
    rw [outOf_none]
    simp only [if_true]
    have hl0 : (((T1 ++ [endAt (bs s).length]).length : Int) == 0) = false := by
      rw [beq_eq_false_iff_ne, List.length_append, List.length_singleton]; omega
    rw [hl0]
    generalize ho2 : outOf [] T2 (bs t).length q2 = o2
    obtain ⟨M, hM, hMl⟩ : ∃ M : Nat, Int.tmod x2 5 = (M : Int) ∧ M < 5 := ⟨(x2 % 5).toNat, by rw [Int.tmod_eq_emod_of_nonneg hx.1]; omega, by omega⟩
    have hwM := Aside0.mk (show wrap64 (Int.tmod x2 5) = (M : Int) by rw [hM]; exact w64 (by omega) (by omega))
    clear hM
    have loop : ∀ (d j : Nat), j + d = M → ∀ fr : ByteArray, bs fr = bs s ++ List.replicate (j + 1) 32 → ∀ b,
        (∀ fr' : ByteArray, bs fr' = bs s ++ List.replicate (M + 1) 32 → Ev (fun k => scantlinglaw03_LexOn.l0 k t x2 (T1 ++ [endAt (bs s).length]) o2.1 o2.2.1 o2.2.2 ((s.size + 1 + M : Nat) : Int) fr' (M : Int)) b) →
        Ev (fun k => scantlinglaw03_LexOn.l0 k t x2 (T1 ++ [endAt (bs s).length]) o2.1 o2.2.1 o2.2.2 ((s.size + 1 + j : Nat) : Int) fr (j : Int)) b := by
      intro d
      induction d with
      | zero =>
        intro j hj fr hfr b hb
        obtain rfl : j = M := by omega
        exact hb fr hfr
      | succ d ih =>
        intro j hj fr hfr b hb
        have hsz : fr.size = s.size + (j + 1) := by rw [← bs_len, hfr, List.length_append, List.length_replicate, bs_len]
        have hfr' : bs (fr ++ (⟨#[32]⟩ : ByteArray)) = bs s ++ List.replicate (j + 1 + 1) 32 := by
          rw [bs_append, hfr, List.append_assoc]
          congr 1
          rw [List.replicate_succ' (n := j + 1)]
        have h3 := ih (j + 1) (by omega) (fr ++ (⟨#[32]⟩ : ByteArray)) hfr' b hb
        have hw1 := Aside0.mk (show wrap64 (((s.size + 1 + j : Nat) : Int) + 1) = ((s.size + 1 + (j + 1) : Nat) : Int) by rw [w64 (by omega) (by omega)]; omega)
        have hw2 := Aside0.mk (show wrap64 ((j : Int) + 1) = ((j + 1 : Nat) : Int) from w64 (by omega) (by omega))
        refine Ev.step (fun k => ?_) h3
        rw [scantlinglaw03_LexOn.l0, hwM.out, if_pos (by omega), if_pos (by omega), hw1.out, hw2.out]
    have hfr0 : bs (s ++ (⟨#[32]⟩ : ByteArray)) = bs s ++ List.replicate (0 + 1) 32 := by rw [bs_append]; rfl
    have hw0 := Aside0.mk (show wrap64 ((s.size : Int) + 1) = ((s.size + 1 + 0 : Nat) : Int) by rw [w64 (by omega) (by omega)]; omega)
    refine Ev.step (f := fun k => scantlinglaw03_LexOn.l0 k t x2 (T1 ++ [endAt (bs s).length]) o2.1 o2.2.1 o2.2.2 ((s.size + 1 + 0 : Nat) : Int) (s ++ (⟨#[32]⟩ : ByteArray)) ((0 : Nat) : Int)) (fun k => ?_) ?_
    · rw [scantlinglaw03_LexOn.j1, if_neg (by decide), if_pos (by omega), hw0.out]
      rfl
    refine loop M 0 (Nat.zero_add _) _ hfr0 true ?_
    intro fr hfr
    have hsz : fr.size = s.size + (M + 1) := by rw [← bs_len, hfr, List.length_append, List.length_replicate, bs_len]
    have hall : bs (fr ++ t) = (bs s ++ List.replicate (M + 1) 32) ++ bs t := by rw [bs_append, hfr]
    have hlen : (bs s ++ List.replicate (M + 1) 32).length = s.size + 1 + M := by rw [List.length_append, List.length_replicate, bs_len]; omega
    have ra := rd_append r1 rfl (rd_spaces (M + 1) (0 + (bs s).length))
    rw [List.append_nil] at ra
    have rm := rd_move (s.size + 1 + M) r2
    rw [Nat.zero_add] at rm
    have rb := rd_append ra rfl (by rw [hlen, Nat.zero_add]; exact rm)
    have e3 := read_eq (fr ++ t) (by rw [size_app]; omega)
    rw [hall, readA_rd rb] at e3
    have htot : ((bs s ++ List.replicate (M + 1) 32) ++ bs t).length = t.size + (s.size + 1 + M) := by rw [List.length_append, hlen, bs_len]; omega
    rw [htot] at e3
    have hb1 : fr.size + t.size ≤ 9223372036854775807 := by omega
    refine Ev.step (f := fun k => (lex_Read.f k (fr ++ t)).bind fun bt338 => (if o2.2.1 = 0 then ((some (([] : List (S35)) : List (S35))).bind fun y343 => (if 0 ≤ (wrap64 (((T1 ++ [endAt (bs s).length]).length : Int) - 1)) then (if (wrap64 (((T1 ++ [endAt (bs s).length]).length : Int) - 1)) ≤ ((T1 ++ [endAt (bs s).length]).length : Int) then ((some ((T1 ++ [endAt (bs s).length]).take ((wrap64 (((T1 ++ [endAt (bs s).length]).length : Int) - 1)) : Int).toNat : List (S35))).bind fun y346 => (if y343.length + y346.length < 1759218604441 then (scantlinglaw03_LexOn.l1 k o2.1 ((s.size + 1 + M : Nat) : Int) bt338.1 bt338.2.1 (y343 ++ y346) 0) else (none))) else (none)) else (none))) else (if bt338.2.1 = o2.2.1 then (if bt338.2.2 = (wrap64 (o2.2.2 + ((s.size + 1 + M : Nat) : Int))) then (some ((bt338.1.length : Int) == 0)) else (some false)) else (some false)))) (fun k => by rw [scantlinglaw03_LexOn.l0, hwM.out, if_neg (by omega), if_pos hb1]) ?_
    refine Ev.bind e3 ?_
    have hT1 : T1.length ≤ 3001 := by
      have := readA_len (bs s)
      rw [a1, outOf_none, List.length_append, List.length_singleton, bs_len] at this
      omega
    cases q2 with
    | some q2 =>
      obtain ⟨w, p⟩ := q2
      obtain ⟨p', hp', hpl, _, hw0', _⟩ := rd_fault r2 w p rfl
      rw [bs_len] at hpl
      subst ho2
      have hwp : wrap64 ((p : Int) + ((s.size + 1 + M : Nat) : Int)) = ((p + (s.size + 1 + M) : Nat) : Int) := by rw [w64 (by omega) (by omega)]; omega
      have hwf := eq_false hw0'
      simp only [outOf, moveQ, hwf, if_false, hwp, if_true]
      exact Ev.now _
    | none =>
      subst ho2
      have hlen2 : ((T1 ++ [endAt (bs s).length]).length : Int) = (T1.length : Int) + 1 := by rw [List.length_append, List.length_singleton]; omega
      have hw4 := Aside0.mk (show wrap64 (((T1 ++ [endAt (bs s).length]).length : Int) - 1) = (T1.length : Int) by rw [hlen2, w64 (by omega) (by omega)]; omega)
      have htake : (T1 ++ [endAt (bs s).length]).take T1.length = T1 := List.take_left' rfl
      have z1 : (0 : Int) ≤ (T1.length : Int) := by omega
      have z2 : (T1.length : Int) ≤ ((T1 ++ [endAt (bs s).length]).length : Int) := by omega
      have z3 : ([] : List S35).length + T1.length < 1759218604441 := by rw [List.length_nil]; omega
      simp only [outOf, moveQ, List.nil_append, if_true, Option.bind_some, hw4.out, if_pos z1, if_pos z2, Int.toNat_natCast, htake, if_pos z3]
      have hT2 : T2.length ≤ 3001 := by
        have := readA_len (bs t)
        rw [a2, outOf_none, List.length_append, List.length_singleton, bs_len] at this
        omega
      refine on_l1 (T2 ++ [endAt (bs t).length]) _ (s.size + 1 + M) (by omega) ?_ (by rw [List.length_append, List.length_singleton]; omega) true (T2 ++ [endAt (bs t).length]).length 0 T1 (Nat.zero_add _) (by rw [List.length_append, List.length_singleton]; omega) ?_
      · intro x hx
        rcases List.mem_append.1 hx with hx | hx
        · obtain ⟨p, hp, _, hpl⟩ := (rd_at_ge r2).1 x hx
          rw [bs_len] at hpl
          exact ⟨p, hp, by omega⟩
        · rw [List.mem_singleton] at hx
          subst hx
          exact ⟨(bs t).length, rfl, by rw [bs_len]; omega⟩
      · have e5 : T1 ++ ((T2 ++ [endAt (bs t).length]).drop 0).map (moveT (s.size + 1 + M)) = T1 ++ T2.map (moveT (s.size + 1 + M)) ++ [endAt (t.size + (s.size + 1 + M))] := by
          rw [List.drop_zero, List.map_append, List.map_singleton, moveT_end, bs_len, List.append_assoc]
        rw [e5]
        exact same_ref _ (by rw [List.length_append, List.length_append, List.length_map, List.length_singleton]; omega)
end Go.Proofs.YtepnbnpgifpfbaaDoor.G
