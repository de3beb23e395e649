/- Lemmas and walks of this claim: PLexSpaces. -/
import Derived.Test.YtepnbnpgifpfbaaDoorZGScantlinglaw03LexSpaces
import Derived.Test.YtepnbnpgifpfbaaDoorZPcLexSpaces
set_option linter.unusedVariables false
set_option linter.unusedSimpArgs false
namespace Go.Proofs.YtepnbnpgifpfbaaDoor.G
open Go.RowKit Go.Proofs.YtepnbnpgifpfbaaDoorW.PrintWords Go.Proofs.YtepnbnpgifpfbaaDoorW.PrintMore
theorem awake_true : scantlinglaw03_awake.f = some true := by kernel_rfl
theorem bs_append (a b : ByteArray) : bs (a ++ b) = bs a ++ bs b := by simp [bs]
theorem size_app (a b : ByteArray) : (a ++ b).size = a.size + b.size := ByteArray.size_append
theorem rd35_nat (L : List S35) (i : Nat) (h : i < L.length) : rd_T35 L (i : Int) = L[i] := by
  unfold rd_T35
  rw [Int.toNat_natCast, List.getD_eq_getElem?_getD, List.getElem?_eq_getElem h]
  rfl
theorem u8_range {x : Int} (h : (Lit.int .u8 x).wf = true) : 0 ≤ x ∧ x ≤ 255 := by
  simp only [Lit.wf, IntKind.min, IntKind.max, IntKind.signed, IntKind.bits, Bool.and_eq_true, decide_eq_true_eq] at h
  simp at h
  omega
theorem moveT_end (n e : Nat) : moveT n (endAt e) = endAt (e + n) := by unfold moveT endAt; simp
theorem rd_part {l : List UInt8} {T : List S35} (r : Rd l 0 T none) (n kk : Nat) (hn : l.length = n) (hk : kk ≤ T.length) : ∃ p : Nat, ((T ++ [endAt n])[kk]'(by rw [List.length_append, List.length_singleton]; omega)).f1 = (p : Int) ∧ p ≤ n ∧ Rd (l.take p) 0 (T.take kk) none ∧ Rd (l.drop p) p (T.drop kk) none := by
  by_cases h : kk < T.length
  · have e : T = T.take kk ++ T[kk] :: T.drop (kk + 1) := by rw [← List.drop_eq_getElem_cons h, List.take_append_drop]
    obtain ⟨p, h1, h2, _, h4, h5⟩ := rd_split r _ _ _ e
    refine ⟨p, ?_, by omega, h4, ?_⟩
    · rw [List.getElem_append_left h, h1, Nat.zero_add]
    · rw [← List.drop_eq_getElem_cons h, Nat.zero_add] at h5; exact h5
  · obtain rfl : kk = T.length := by omega
    refine ⟨n, ?_, Nat.le_refl _, ?_, ?_⟩
    · simp [endAt]
    · rw [List.take_of_length_le (by omega), List.take_of_length_le (Nat.le_refl _)]; exact r
    · rw [List.drop_eq_nil_of_le (by omega), List.drop_eq_nil_of_le (Nat.le_refl _)]; exact .nil _
theorem sp_l1 (L : List S35) (kk M : Nat) (gap : ByteArray) (hg : gap.size = M) (hM : M ≤ 6) (hl : L.length ≤ 4000) (hL : ∀ t ∈ L, ∃ p : Nat, t.f1 = (p : Int) ∧ p ≤ 4000) : ∀ (d i : Nat), i + d = L.length →
    Ev (fun k => scantlinglaw03_LexSpaces.l1 k L (kk : Int) gap (L.take kk ++ (L.drop kk).map (moveT M)) (i : Int)) true
  | 0, i, h => by
    refine Ev.step (f := fun _ => some true) (fun k => ?_) (Ev.now _)
    rw [scantlinglaw03_LexSpaces.l1, if_neg (by omega)]
  | d + 1, i, h => by
    have hi : i < L.length := by omega
    have h1 := sp_l1 L kk M gap hg hM hl hL d (i + 1) (by omega)
    have hlen : (L.take kk ++ (L.drop kk).map (moveT M)).length = L.length := by
      rw [List.length_append, List.length_map, List.length_take, List.length_drop]; omega
    have hlen' : ((L.take kk ++ (L.drop kk).map (moveT M)).length : Int) = (L.length : Int) := by rw [hlen]
    obtain ⟨p, hp, hpl⟩ := hL _ (List.getElem_mem hi)
    have hw2 := Aside0.mk (show wrap64 ((i : Int) + 1) = ((i + 1 : Nat) : Int) from w64 (by omega) (by omega))
    refine Ev.step (fun k => ?_) h1
    by_cases hk : kk ≤ i
    · have hw1 := Aside0.mk (show wrap64 (L[i].f1 + (gap.size : Int)) = L[i].f1 + (M : Int) by rw [hp, hg]; exact w64 (by omega) (by omega))
      have hm : (L.take kk ++ (L.drop kk).map (moveT M))[i]'(by omega) = moveT M L[i] := by
        rw [List.getElem_append_right (by rw [List.length_take]; omega)]
        simp only [List.getElem_map, List.getElem_drop, List.length_take]
        congr 2
        omega
      rw [scantlinglaw03_LexSpaces.l1, if_pos (by omega), if_pos (by omega), if_pos (by omega), if_pos (by omega), rd35_nat L _ hi, rd35_nat _ _ (by omega), hm, hw1.out, if_neg (by simp [moveT]), hw2.out]
    · have hm : (L.take kk ++ (L.drop kk).map (moveT M))[i]'(by omega) = L[i] := by
        rw [List.getElem_append_left (by rw [List.length_take]; omega), List.getElem_take]
      rw [scantlinglaw03_LexSpaces.l1, if_pos (by omega), if_pos (by omega), if_neg (by omega), if_pos (by omega), rd35_nat L _ hi, rd35_nat _ _ (by omega), hm, if_neg (by simp), hw2.out]
theorem LexSpaces : scantlinglaw03_LexSpaces.Pure := by
  intro s x1 x2 hs hx1 hx2
  refine Ev.rounds (g := fun k => scantlinglaw03_LexSpaces.f k s x1 x2) ?_
  have hx1' := u8_range hx1
  have hx2' := u8_range hx2
  unfold scantlinglaw03_LexSpaces.f
  simp only [awake_true, Option.bind_some, if_true]
  by_cases h1 : s.size ≤ 500
  case neg =>
    rw [show decide ((s.size : Int) > 500) = true from decide_eq_true (by omega)]
    exact Ev.step (f := fun _ => some true) (fun k => by rw [scantlinglaw03_LexSpaces.j0, if_pos rfl, awake_true]; rfl) (Ev.now _)
  rw [show decide ((s.size : Int) > 500) = false from decide_eq_false (by omega)]
  obtain ⟨T, q, r, a⟩ := rd_of (bs s)
  have e1 := read_eq s (by omega)
  rw [a, bs_len] at e1
  refine Ev.step (f := fun k => (lex_Read.f k s).bind fun bt453 => (if bt453.2.1 = 0 then (scantlinglaw03_LexSpaces.j1 k s x1 x2 bt453.1 bt453.2.1 ((bt453.1.length : Int) == 0)) else (scantlinglaw03_LexSpaces.j1 k s x1 x2 bt453.1 bt453.2.1 true))) (fun k => by rw [scantlinglaw03_LexSpaces.j0, if_neg (by decide)]) ?_
  refine Ev.bind e1 ?_
  cases q with
  | some q =>
    obtain ⟨w, p⟩ := q
    obtain ⟨_, _, _, _, hw0, _⟩ := rd_fault r w p rfl
    have hwf := eq_false hw0
    simp only [outOf, hwf, if_false]
    refine Ev.step (f := fun _ => some true) (fun k => ?_) (Ev.now _)
    rw [scantlinglaw03_LexSpaces.j1, if_pos rfl]
    have : (w != 0) = true := by rw [bne_iff_ne]; exact hw0
    rw [this]
  | none =>
    have hT : T.length ≤ 501 := by
      have := readA_len (bs s)
      rw [a] at this
      simp only [outOf, List.nil_append, List.length_append, List.length_singleton, bs_len] at this
      omega
    simp only [outOf, List.nil_append, if_true]
    generalize hLd : T ++ [endAt s.size] = L
    have hLl : L.length = T.length + 1 := by rw [← hLd, List.length_append, List.length_singleton]
    have hl0 : ((L.length : Int) == 0) = false := by
      rw [beq_eq_false_iff_ne]; omega
    rw [hl0]
    obtain ⟨kk, hkk, hkl⟩ : ∃ kk : Nat, Int.tmod x1 (L.length : Int) = (kk : Int) ∧ kk < L.length := by
      have e0 : Int.tmod x1 (L.length : Int) = x1 % (L.length : Int) := Int.tmod_eq_emod_of_nonneg hx1'.1
      have e2 := Int.emod_nonneg x1 (show (L.length : Int) ≠ 0 by omega)
      have e3 := Int.emod_lt_of_pos x1 (show (0 : Int) < (L.length : Int) by omega)
      exact ⟨(x1 % (L.length : Int)).toNat, by rw [e0]; omega, by omega⟩
    have hwK := Aside0.mk (show Int.tmod (wrap64 x1) (L.length : Int) = (kk : Int) by rw [w64 (by omega) (by omega)]; exact hkk)
    clear hkk
    obtain ⟨p, hp, hpl, ra, rb⟩ := rd_part r s.size kk (bs_len s) (by omega)
    simp only [hLd] at hp
    have hpI : rd_T35 L (kk : Int) = L[kk] := rd35_nat L kk hkl
    obtain ⟨M, hM, hMl⟩ : ∃ M : Nat, Int.tmod x2 6 = (M : Int) ∧ M < 6 := ⟨(x2 % 6).toNat, by rw [Int.tmod_eq_emod_of_nonneg hx2'.1]; omega, by omega⟩
    have hwM := Aside0.mk (show wrap64 (Int.tmod x2 6) = (M : Int) by rw [hM]; exact w64 (by omega) (by omega))
    clear hM
    have hd : decide (((p : Nat) : Int) > (s.size : Int)) = false := decide_eq_false (by omega)
    refine Ev.step (f := fun k => scantlinglaw03_LexSpaces.j2 k s x2 L (kk : Int) (p : Int) false) (fun k => ?_) ?_
    · rw [scantlinglaw03_LexSpaces.j1, if_neg (by decide), if_neg (by omega), hwK.out, if_pos (by omega), if_pos (by omega), hpI, hp, if_neg (by omega), hd]
    refine Ev.step (f := fun k => scantlinglaw03_LexSpaces.l0 k s x2 L (kk : Int) (p : Int) (⟨#[]⟩ : ByteArray) ((0 : Nat) : Int)) (fun k => ?_) ?_
    · rw [scantlinglaw03_LexSpaces.j2, if_neg (by decide)]; rfl
    have loop : ∀ (d j : Nat), j + d = M → ∀ g : ByteArray, bs g = List.replicate j 32 →
        (∀ g' : ByteArray, bs g' = List.replicate M 32 → Ev (fun k => scantlinglaw03_LexSpaces.l0 k s x2 L (kk : Int) (p : Int) g' (M : Int)) true) →
        Ev (fun k => scantlinglaw03_LexSpaces.l0 k s x2 L (kk : Int) (p : Int) g (j : Int)) true := by
      intro d
      induction d with
      | zero =>
        intro j hj g hg hb
        obtain rfl : j = M := by omega
        exact hb g hg
      | succ d ih =>
        intro j hj g hg hb
        have hsz : g.size = j := by rw [← bs_len, hg, List.length_replicate]
        have hg' : bs (g ++ (⟨#[32]⟩ : ByteArray)) = List.replicate (j + 1) 32 := by
          rw [bs_append, hg, List.replicate_succ' (n := j)]
        have h3 := ih (j + 1) (by omega) (g ++ (⟨#[32]⟩ : ByteArray)) hg' hb
        have hw2 := Aside0.mk (show wrap64 ((j : Int) + 1) = ((j + 1 : Nat) : Int) from w64 (by omega) (by omega))
        refine Ev.step (fun k => ?_) h3
        rw [scantlinglaw03_LexSpaces.l0, hwM.out, if_pos (by omega), if_pos (by omega), hw2.out]
    refine loop M 0 (Nat.zero_add _) _ rfl ?_
    intro g hg
    have hsz : g.size = M := by rw [← bs_len, hg, List.length_replicate]
    have b1 : bs (s.extract 0 p) = (bs s).take p := by rw [bs_ext]; rfl
    have s1 : (s.extract 0 p).size = p := by rw [ByteArray.size_extract]; omega
    have s2 : (s.extract p s.size).size = s.size - p := by rw [ByteArray.size_extract]; omega
    have s3 : (s.extract 0 p ++ g).size = p + M := by rw [size_app, s1, hsz]
    have hall : bs ((s.extract 0 p ++ g) ++ s.extract p s.size) = ((bs s).take p ++ List.replicate M 32) ++ (bs s).drop p := by rw [bs_append, bs_append, b1, bs_tail, hg]
    have hlen1 : ((bs s).take p).length = p := by rw [List.length_take, bs_len]; omega
    have hlen2 : ((bs s).take p ++ List.replicate M 32).length = p + M := by rw [List.length_append, hlen1, List.length_replicate]
    have r1 := rd_append ra rfl (rd_spaces M (0 + ((bs s).take p).length))
    rw [List.append_nil] at r1
    have r2 := rd_append r1 rfl (by rw [hlen2, Nat.zero_add]; exact rd_move M rb)
    have e3 := read_eq ((s.extract 0 p ++ g) ++ s.extract p s.size) (by rw [size_app, s3, s2]; omega)
    rw [hall, readA_rd r2] at e3
    have htot : (((bs s).take p ++ List.replicate M 32) ++ (bs s).drop p).length = s.size + M := by rw [List.length_append, hlen2, List.length_drop, bs_len]; omega
    rw [htot] at e3
    have hm : outOf [] (T.take kk ++ (T.drop kk).map (moveT M)) (s.size + M) (moveQ M none) = (L.take kk ++ (L.drop kk).map (moveT M), 0, 0) := by
      rw [← hLd, List.take_append_of_le_length (by omega), List.drop_append_of_le_length (by omega), List.map_append, List.map_singleton, moveT_end]
      simp only [moveQ, outOf, List.nil_append, List.append_assoc]
    rw [hm] at e3
    have c1 : (s.extract 0 ((p : Int)).toNat).size + g.size ≤ 9223372036854775807 := by rw [Int.toNat_natCast, s1]; omega
    have c2 : (s.extract 0 ((p : Int)).toNat ++ g).size + (s.extract ((p : Int)).toNat s.size).size ≤ 9223372036854775807 := by rw [Int.toNat_natCast, s3, s2]; omega
    refine Ev.step (f := fun k => (lex_Read.f k ((s.extract 0 p ++ g) ++ s.extract p s.size)).bind fun bt459 => (if bt459.2.1 = 0 then (scantlinglaw03_LexSpaces.j4 k L (kk : Int) g bt459.1 ((bt459.1.length : Int) != (L.length : Int))) else (scantlinglaw03_LexSpaces.j4 k L (kk : Int) g bt459.1 true))) (fun k => by rw [scantlinglaw03_LexSpaces.l0, hwM.out, if_neg (by omega), if_pos (by omega), if_pos (by omega), if_pos c1, if_pos c2, Int.toNat_natCast]) ?_
    refine Ev.bind e3 ?_
    have hlen : (L.take kk ++ (L.drop kk).map (moveT M)).length = L.length := by
      rw [List.length_append, List.length_map, List.length_take, List.length_drop]; omega
    simp only [if_true, hlen, bne_self_eq_false]
    refine Ev.step (f := fun k => scantlinglaw03_LexSpaces.l1 k L (kk : Int) g (L.take kk ++ (L.drop kk).map (moveT M)) ((0 : Nat) : Int)) (fun k => ?_) ?_
    · rw [scantlinglaw03_LexSpaces.j4, if_neg (by decide)]; rfl
    refine sp_l1 L kk M g hsz (by omega) (by omega) ?_ L.length 0 (Nat.zero_add _)
    intro t ht
    rw [← hLd] at ht
    rcases List.mem_append.1 ht with ht | ht
    · obtain ⟨p', hp', _, hpl'⟩ := (rd_at_ge r).1 t ht
      rw [bs_len] at hpl'
      exact ⟨p', hp', by omega⟩
    · rw [List.mem_singleton] at ht
      subst ht
      exact ⟨s.size, rfl, by omega⟩
end Go.Proofs.YtepnbnpgifpfbaaDoor.G
