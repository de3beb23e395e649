/- Lemmas and walks of this claim: GELexB, GELexN. -/
import Derived.Test.YtepnbnpgifpfbaaDoorZKb
import Derived.Lib.OthersKept
import Derived.Deep.LoopGhost
import Derived.Shelf.GgClosure.StringsIndexFunc
import Derived.Lib.TrimU
import Derived.Deep.RegionWith
import Derived.WideLaws
import Derived.Outline
import Derived.Lib.SmallJoins
set_option linter.unusedVariables false
set_option linter.unusedSimpArgs false
namespace Go.Proofs.YtepnbnpgifpfbaaDoor.G
open Go.RowKit Go.Proofs.YtepnbnpgifpfbaaDoorW.PrintWords
theorem LaidW.tabs {w : World} (h : LaidW w) : Lib.Utf8Tabs 0 1 w := by
  obtain ⟨w0, ⟨_, hT, _⟩, h0⟩ := h.out
  exact Utf8Tabs_below hT h0
def utf8From (s : ByteArray) : Nat → Nat → Bool
  | 0, _ => true
  | f + 1, pos => if pos < s.size then (if (Utf8.decode s pos).1 = 65533 then (if (Lib.decodeGo (s.extract pos s.size)).2 = 1 then false else utf8From s f (pos + (Utf8.decode s pos).2)) else utf8From s f (pos + (Utf8.decode s pos).2)) else true
def lex_Utf8.f (a0 : ByteArray) : Option Bool := some (utf8From a0 a0.size 0)
set_option maxHeartbeats 2000000 in
set_option maxRecDepth 1000000 in
theorem lex_Utf8.calls (s : ByteArray) (r : Bool) (w : World) (hL_ : LaidW w) (h : lex_Utf8.f s = some r) :
    Calls Tryd.prog 14 #[.string s] w fun e w' => e = .returned (.bool r) ∧ Below w.heap.size w w' := by
  obtain rfl := Option.some.inj h
  clear h
  go_enter Tryd.func14, Tryd.ntmps14
  go_wp2
  go_loopg [] s.size (fun gf wx => ∃ pos : Nat, wx.heap[w.heap.size]? = some (.stringIter s pos) ∧ Below w.heap.size w wx ∧ utf8From s gf pos = utf8From s s.size 0 ∧ s.size ≤ pos + gf)
  case atStart => exact ⟨0, World.iter_heap w s 0, (Below.refl _ w).alloc (Nat.le_refl _) _, rfl, by omega⟩
  case round =>
    obtain ⟨pos, hit, hbw, hleft, hfu⟩ := hrel
    by_cases hps : pos < s.size
    · obtain ⟨g', rfl⟩ : ∃ g', gk = g' + 1 := ⟨gk - 1, by omega⟩
      have hnx : ∀ ty, (Instr.next (.pointer (some ⟨w.heap.size, 0, none⟩)) true ty).run Tryd.prog wr = _ := fun ty => Lib.run_next_any_at wr w.heap.size s pos ty hit hps
      have hwd := Lib.width_pos s pos
      obtain ⟨R, hR⟩ : ∃ R, (Utf8.decode s pos).1 = R := ⟨_, rfl⟩
      obtain ⟨K, hK⟩ : ∃ K, (Utf8.decode s pos).2 = K := ⟨_, rfl⟩
      simp only [utf8From, hps, if_true, hR, hK] at hleft
      rw [hR, hK] at hnx
      rw [hK] at hwd
      have hit2 := Lib.iterAt_heap wr w.heap.size s pos (pos + K) hit
      have hbw2 := Lib.below_iterAt hbw (k := w.heap.size) (Nat.le_refl _) s (pos + K)
      obtain ⟨W, hWd⟩ : ∃ W, wr.iterAt w.heap.size s (pos + K) = W := ⟨_, rfl⟩
      rw [hWd] at hnx hit2 hbw2
      by_cases hR3 : R = 65533
      · subst hR3
        rw [if_pos rfl] at hleft
        have cS := Tryd.utf8_DecodeRuneInString (s.extract pos s.size) W (hL_.below hbw2).tabs
        obtain ⟨R2, hR2⟩ : ∃ R2, (Lib.decodeGo (s.extract pos s.size)).1 = R2 := ⟨_, rfl⟩
        obtain ⟨K2, hK2⟩ : ∃ K2, (Lib.decodeGo (s.extract pos s.size)).2 = K2 := ⟨_, rfl⟩
        rw [hR2, hK2] at cS
        rw [hK2] at hleft
        have HC := Aside0.mk cS
        have hps2 : (pos : Int) ≤ s.size := by omega
        have hb1 : ((65533 : Int) != 65533) = false := by decide
        by_cases hk1 : K2 = 1
        · subst hk1
          rw [if_pos rfl] at hleft
          have HL := Aside0.mk hleft
          clear hleft hR hK hWd cS hR2 hK2
          go_wp2_with (go_at_call 23; refine HC.out.mono ?_; rintro e w' ⟨rfl, hb9⟩; clear HC)
          go_ret
          rw [← HL.out]
          exact ⟨rfl, below_step hbw2 hb9⟩
        · rw [if_neg hk1] at hleft
          have hk2 : ((K2 : Int) == 1) = false := by rw [beq_eq_false_iff_ne]; omega
          have HL := Aside0.mk hleft
          clear hleft hR hK hWd cS hR2 hK2 hk1
          go_wp2_with (go_at_call 23; refine HC.out.mono ?_; rintro e w' ⟨rfl, hb9⟩; clear HC; have hit3 := (hb9.block _ (blk_lt hit2)).trans hit2; have hbw3 := below_step hbw2 hb9)
          go_roundg g'
          case measure => omega
          case rel => exact ⟨pos + K, hit3, hbw3, HL.out, by omega⟩
      · have hb1 : ((R : Int) != 65533) = true := by simp; omega
        rw [if_neg hR3] at hleft
        have HL := Aside0.mk hleft
        clear hleft hR hK hWd hR3
        go_wp2
        go_roundg g'
        case measure => omega
        case rel => exact ⟨pos + K, hit2, hbw2, HL.out, by omega⟩
    · have hnx : ∀ ty, (Instr.next (.pointer (some ⟨w.heap.size, 0, none⟩)) true ty).run Tryd.prog wr = _ := fun ty => Lib.run_next_end_at wr w.heap.size s pos ty hit hps
      have hend : utf8From s gk pos = true := by cases gk <;> simp [utf8From, hps]
      rw [hend] at hleft
      have HL := Aside0.mk hleft
      clear hleft hend
      go_wp2
      go_ret
      rw [← HL.out]
      exact ⟨rfl, hbw⟩
def inFrom (set : ByteArray) (c : Nat) : Nat → Nat → Bool → Bool
  | 0, _, acc => acc
  | f + 1, pos, acc => if pos < set.size then inFrom set c f (pos + (Utf8.decode set pos).2) (acc || ((c : Int) == ((Utf8.decode set pos).1 : Int))) else acc
def cutLeftFrom (s set : ByteArray) : Nat → Nat → ByteArray
  | 0, _ => ⟨#[]⟩
  | f + 1, pos => if pos < s.size then (if inFrom set (Utf8.decode s pos).1 set.size 0 false = true then cutLeftFrom s set f (pos + (Utf8.decode s pos).2) else s.extract pos s.size) else ⟨#[]⟩
theorem hk_iter {w W : World} {k : Nat} {o : Obj} (h : w.heap[k]? = some o) (hb : Below w.heap.size w W) : W.heap[k]? = some o := (hb.block _ (blk_lt h)).trans h
set_option maxHeartbeats 2000000 in
set_option maxRecDepth 1000000 in
theorem cutLeft_any (s set : ByteArray) (w : World) :
    Calls Tryd.prog 56 #[.string s, .string set] w fun e w' => e = .returned (.string (cutLeftFrom s set s.size 0)) ∧ Below w.heap.size w w' := by
  go_enter Tryd.func56, Tryd.ntmps56
  go_wp2
  go_loopg [] s.size (fun gf wx => ∃ pos : Nat, wx.heap[w.heap.size]? = some (.stringIter s pos) ∧ Below w.heap.size w wx ∧ cutLeftFrom s set gf pos = cutLeftFrom s set s.size 0 ∧ s.size ≤ pos + gf)
  case atStart => exact ⟨0, World.iter_heap w s 0, (Below.refl _ w).alloc (Nat.le_refl _) _, rfl, by omega⟩
  case round =>
    obtain ⟨pos, hit, hbw, hleft, hfu⟩ := hrel
    by_cases hps : pos < s.size
    · obtain ⟨g', rfl⟩ : ∃ g', gk = g' + 1 := ⟨gk - 1, by omega⟩
      have hnx : ∀ ty, (Instr.next (.pointer (some ⟨w.heap.size, 0, none⟩)) true ty).run Tryd.prog wr = _ := fun ty => Lib.run_next_any_at wr w.heap.size s pos ty hit hps
      have hwd := Lib.width_pos s pos
      obtain ⟨R, hR⟩ : ∃ R, (Utf8.decode s pos).1 = R := ⟨_, rfl⟩
      obtain ⟨K, hK⟩ : ∃ K, (Utf8.decode s pos).2 = K := ⟨_, rfl⟩
      simp only [cutLeftFrom, hps, if_true, hR, hK] at hleft
      rw [hR, hK] at hnx
      rw [hK] at hwd
      have hit2 := Lib.iterAt_heap wr w.heap.size s pos (pos + K) hit
      have hbw2 := Lib.below_iterAt hbw (k := w.heap.size) (Nat.le_refl _) s (pos + K)
      obtain ⟨W, hWd⟩ : ∃ W, wr.iterAt w.heap.size s (pos + K) = W := ⟨_, rfl⟩
      rw [hWd] at hnx hit2 hbw2
      have HL := Aside0.mk hleft
      clear hleft hR hK hWd
      have hps2 : (pos : Int) ≤ s.size := by omega
      go_wp2
      go_loopg [7] set.size (fun gf v7 wx => ∃ (p2 : Nat) (acc : Bool), v7 = .bool acc ∧ wx.heap[W.heap.size]? = some (.stringIter set p2) ∧ Below W.heap.size W wx ∧ Aside0 (inFrom set R gf p2 acc = inFrom set R set.size 0 false) ∧ set.size ≤ p2 + gf)
      case atStart => exact ⟨0, false, rfl, World.iter_heap W set 0, (Below.refl _ W).alloc (Nat.le_refl _) _, ⟨rfl⟩, by omega⟩
      case round =>
        obtain ⟨p2, acc, rfl, jit, jbw, HJ, jfu⟩ := hrel
        have jhit := hk_iter hit2 jbw
        have jhbw := below_step hbw2 jbw
        by_cases jps : p2 < set.size
        · obtain ⟨j', rfl⟩ : ∃ j', gk = j' + 1 := ⟨gk - 1, by omega⟩
          have hnx2 : ∀ ty, (Instr.next (.pointer (some ⟨W.heap.size, 0, none⟩)) true ty).run Tryd.prog wr = _ := fun ty => Lib.run_next_any_at wr W.heap.size set p2 ty jit jps
          have jwd := Lib.width_pos set p2
          obtain ⟨R2, hR2⟩ : ∃ R2, (Utf8.decode set p2).1 = R2 := ⟨_, rfl⟩
          obtain ⟨K2, hK2⟩ : ∃ K2, (Utf8.decode set p2).2 = K2 := ⟨_, rfl⟩
          have HJ2 := HJ.out
          simp only [inFrom, jps, if_true, hR2, hK2] at HJ2
          rw [hR2, hK2] at hnx2
          rw [hK2] at jwd
          have jit2 := Lib.iterAt_heap wr W.heap.size set p2 (p2 + K2) jit
          have jbw2 := Lib.below_iterAt jbw (k := W.heap.size) (Nat.le_refl _) set (p2 + K2)
          obtain ⟨V, hVd⟩ : ∃ V, wr.iterAt W.heap.size set (p2 + K2) = V := ⟨_, rfl⟩
          rw [hVd] at hnx2 jit2 jbw2
          have HJ3 := Aside0.mk HJ2
          clear hnx HJ HJ2 hR2 hK2 hVd
          cases acc with
          | true =>
            go_wp2
            go_roundg j'
            case measure => omega
            case rel => exact ⟨p2 + K2, true, rfl, jit2, jbw2, ⟨by have := HJ3.out; simpa using this⟩, by omega⟩
          | false =>
            go_wp2
            go_roundg j'
            case measure => omega
            case rel => exact ⟨p2 + K2, ((R : Int) == (R2 : Int)), rfl, jit2, jbw2, ⟨by have := HJ3.out; simpa using this⟩, by omega⟩
        · have hnx2 : ∀ ty, (Instr.next (.pointer (some ⟨W.heap.size, 0, none⟩)) true ty).run Tryd.prog wr = _ := fun ty => Lib.run_next_end_at wr W.heap.size set p2 ty jit jps
          have jend : inFrom set R gk p2 acc = acc := by cases gk <;> simp [inFrom, jps]
          have HJ2 := HJ.out
          rw [jend] at HJ2
          have HL2 := HL.out
          rw [← HJ2] at HL2
          clear hnx HJ HJ2 jend HL
          cases acc with
          | true =>
            rw [if_pos rfl] at HL2
            have HL3 := Aside0.mk HL2
            clear HL2
            go_wp2
            go_roundg g'
            case measure => omega
            case rel => exact ⟨pos + K, jhit, jhbw, HL3.out, by omega⟩
          | false =>
            rw [if_neg (by decide)] at HL2
            have HL3 := Aside0.mk HL2
            clear HL2
            go_wp2
            go_ret
            rw [← HL3.out]
            exact ⟨rfl, jhbw⟩
    · have hnx : ∀ ty, (Instr.next (.pointer (some ⟨w.heap.size, 0, none⟩)) true ty).run Tryd.prog wr = _ := fun ty => Lib.run_next_end_at wr w.heap.size s pos ty hit hps
      have hend : cutLeftFrom s set gk pos = ⟨#[]⟩ := by cases gk <;> simp [cutLeftFrom, hps]
      rw [hend] at hleft
      have HL := Aside0.mk hleft
      clear hleft hend
      go_wp2
      go_ret
      rw [← HL.out]
      exact ⟨rfl, hbw⟩
def cutRightF (set : ByteArray) : Nat → ByteArray → ByteArray
  | 0, s => s
  | f + 1, s => if 0 < s.size then (if inFrom set (Lib.decodeLastL s.data.toList).1 set.size 0 false = true then cutRightF set f (s.extract 0 (s.size - (Lib.decodeLastL s.data.toList).2)) else s) else s
set_option maxHeartbeats 2000000 in
set_option maxRecDepth 1000000 in
theorem cutRight_any (s set : ByteArray) (hmax : s.size ≤ 9223372036854775807) (w : World) (hL_ : LaidW w) :
    Calls Tryd.prog 55 #[.string s, .string set] w fun e w' => e = .returned (.string (cutRightF set s.size s)) ∧ Below w.heap.size w w' := by
  go_enter Tryd.func55, Tryd.ntmps55
  go_wp2
  go_loopg [0] s.size (fun gf v0 wx => ∃ t : ByteArray, v0 = .string t ∧ t.size ≤ gf ∧ t.size ≤ 9223372036854775807 ∧ Below w.heap.size w wx ∧ Aside0 (cutRightF set gf t = cutRightF set s.size s))
  case atStart => exact ⟨s, rfl, Nat.le_refl _, hmax, Below.refl _ _, ⟨rfl⟩⟩
  case round =>
    obtain ⟨t, rfl, hfu, htm, hbw, HL⟩ := hrel
    by_cases hps : (0 : Int) < t.size
    · obtain ⟨g', rfl⟩ : ∃ g', gk = g' + 1 := ⟨gk - 1, by omega⟩
      have hps' : 0 < t.size := by omega
      have cS := Tryd.utf8_DecodeLastRuneInString t wr (by omega) (hL_.below hbw).tabs
      have hwd := Lib.decodeLastL_width t.data.toList (by rw [← Lib.size_eq]; exact hps')
      rw [← Lib.size_eq] at hwd
      obtain ⟨R, hR⟩ : ∃ R, (Lib.decodeLastL t.data.toList).1 = R := ⟨_, rfl⟩
      obtain ⟨K, hK⟩ : ∃ K, (Lib.decodeLastL t.data.toList).2 = K := ⟨_, rfl⟩
      have hleft := HL.out
      simp only [cutRightF, hps', if_true, hR, hK] at hleft
      rw [hR, hK] at cS
      rw [hK] at hwd
      have HC := Aside0.mk cS
      have HL1 := Aside0.mk hleft
      clear hleft hR hK HL cS
      obtain ⟨hw1, hw2⟩ := hwd
      go_wp2_with (go_at_call 64; refine HC.out.mono ?_; rintro e W ⟨rfl, hb9⟩; clear HC; have hbw2 := below_step hbw hb9)
      go_loopg [7] set.size (fun gf v7 wx => ∃ (p2 : Nat) (acc : Bool), v7 = .bool acc ∧ wx.heap[W.heap.size]? = some (.stringIter set p2) ∧ Below W.heap.size W wx ∧ Aside0 (inFrom set R gf p2 acc = inFrom set R set.size 0 false) ∧ set.size ≤ p2 + gf)
      case atStart => exact ⟨0, false, rfl, World.iter_heap W set 0, (Below.refl _ W).alloc (Nat.le_refl _) _, ⟨rfl⟩, by omega⟩
      case round =>
        obtain ⟨p2, acc, rfl, jit, jbw, HJ, jfu⟩ := hrel
        have jhbw := below_step hbw2 jbw
        by_cases jps : p2 < set.size
        · obtain ⟨j', rfl⟩ : ∃ j', gk = j' + 1 := ⟨gk - 1, by omega⟩
          have hnx2 : ∀ ty, (Instr.next (.pointer (some ⟨W.heap.size, 0, none⟩)) true ty).run Tryd.prog wr = _ := fun ty => Lib.run_next_any_at wr W.heap.size set p2 ty jit jps
          have jwd := Lib.width_pos set p2
          obtain ⟨R2, hR2⟩ : ∃ R2, (Utf8.decode set p2).1 = R2 := ⟨_, rfl⟩
          obtain ⟨K2, hK2⟩ : ∃ K2, (Utf8.decode set p2).2 = K2 := ⟨_, rfl⟩
          have HJ2 := HJ.out
          simp only [inFrom, jps, if_true, hR2, hK2] at HJ2
          rw [hR2, hK2] at hnx2
          rw [hK2] at jwd
          have jit2 := Lib.iterAt_heap wr W.heap.size set p2 (p2 + K2) jit
          have jbw2 := Lib.below_iterAt jbw (k := W.heap.size) (Nat.le_refl _) set (p2 + K2)
          obtain ⟨V, hVd⟩ : ∃ V, wr.iterAt W.heap.size set (p2 + K2) = V := ⟨_, rfl⟩
          rw [hVd] at hnx2 jit2 jbw2
          have HJ3 := Aside0.mk HJ2
          clear HJ HJ2 hR2 hK2 hVd
          cases acc with
          | true =>
            go_wp2
            go_roundg j'
            case measure => omega
            case rel => exact ⟨p2 + K2, true, rfl, jit2, jbw2, ⟨by have := HJ3.out; simpa using this⟩, by omega⟩
          | false =>
            go_wp2
            go_roundg j'
            case measure => omega
            case rel => exact ⟨p2 + K2, ((R : Int) == (R2 : Int)), rfl, jit2, jbw2, ⟨by have := HJ3.out; simpa using this⟩, by omega⟩
        · have hnx2 : ∀ ty, (Instr.next (.pointer (some ⟨W.heap.size, 0, none⟩)) true ty).run Tryd.prog wr = _ := fun ty => Lib.run_next_end_at wr W.heap.size set p2 ty jit jps
          have jend : inFrom set R gk p2 acc = acc := by cases gk <;> simp [inFrom, jps]
          have HJ2 := HJ.out
          rw [jend] at HJ2
          have HL2 := HL1.out
          rw [← HJ2] at HL2
          clear HJ HJ2 jend HL1
          cases acc with
          | true =>
            rw [if_pos rfl] at HL2
            have HL3 := Aside0.mk HL2
            clear HL2
            have e1 : ((t.size : Int) - (K : Int)).toNat = t.size - K := by omega
            have e2 : (0 : Int) ≤ (t.size : Int) - (K : Int) := by omega
            have e3 : (t.size : Int) - (K : Int) ≤ (t.size : Int) := by omega
            go_wp2
            go_roundg g'
            case measure => omega
            case rel => exact ⟨t.extract 0 (t.size - K), by first | rfl | simp [e1], by simp; omega, by simp; omega, jhbw, HL3⟩
          | false =>
            rw [if_neg (by decide)] at HL2
            have HL3 := Aside0.mk HL2
            clear HL2
            go_wp2
            go_ret
            rw [← HL3.out]
            exact ⟨rfl, jhbw⟩
    · have hend : cutRightF set gk t = t := by cases gk <;> simp [cutRightF] <;> omega
      have HL2 := HL.out
      rw [hend] at HL2
      have HL3 := Aside0.mk HL2
      clear HL HL2 hend
      go_wp2
      go_ret
      rw [← HL3.out]
      exact ⟨rfl, hbw⟩
end Go.Proofs.YtepnbnpgifpfbaaDoor.G
namespace Go.Proofs.YtepnbnpgifpfbaaDoor.G
open Go.RowKit Go.Proofs.YtepnbnpgifpfbaaDoorW.PrintWords
def digits10 : ByteArray := (⟨#[48, 49, 50, 51, 52, 53, 54, 55, 56, 57, 97, 98, 99, 100, 101, 102]⟩ : ByteArray).extract 0 10
theorem cutLeft_size (s set : ByteArray) : ∀ f p, (cutLeftFrom s set f p).size ≤ s.size
  | 0, _ => Nat.zero_le _
  | f + 1, p => by
    unfold cutLeftFrom
    split
    · split
      · exact cutLeft_size s set f _
      · rw [ByteArray.size_extract]; omega
    · exact Nat.zero_le _
def stripD (s : ByteArray) : ByteArray := cutRightF digits10 (cutLeftFrom s digits10 s.size 0).size (cutLeftFrom s digits10 s.size 0)
set_option maxHeartbeats 2000000 in
set_option maxRecDepth 1000000 in
theorem number_empty (w : World) :
    Calls Tryd.prog 47 #[.string ⟨#[]⟩] w fun e w' => e = .returned (.tuple #[.int .i64 0, .bool false]) ∧ Below w.heap.size w w' := by
  go_enter Tryd.func47, Tryd.ntmps47
  go_wp2_with fail
  go_quiet (fail)
  go_wp2_with fail
  go_ret2
  exact ⟨rfl, pw_below_drewN (Below.refl _ _) _⟩
set_option maxHeartbeats 2000000 in
set_option maxRecDepth 1000000 in
theorem number_zero (s : ByteArray) (h0 : s.toList.isEmpty = false) (h1 : (1 : Int) < (s.size : Int)) (h2 : (bt s 0 == 48) = true) (w : World) :
    Calls Tryd.prog 47 #[.string s] w fun e w' => e = .returned (.tuple #[.int .i64 0, .bool false]) ∧ Below w.heap.size w w' := by
  have hx : ∀ h : 0 < s.size, ((s[0]'h).toNat : Int) = bt s 0 := bt_at s 0
  have h5 : 0 < s.size := by omega
  have h3 : decide ((1 : Int) < (s.size : Int)) = true := decide_eq_true h1
  have h4 : (0 : Int) < (s.size : Int) := by omega
  go_enter Tryd.func47, Tryd.ntmps47
  go_wp2_with fail
  go_quiet (fail)
  go_wp2_with fail
  go_ret2
  exact ⟨rfl, pw_below_drewN (Below.refl _ _) _⟩
theorem isEmpty_iff (s : ByteArray) : s.toList.isEmpty = true ↔ s = ⟨#[]⟩ := by
  rw [ByteArray.toList_eq]
  obtain ⟨⟨l⟩⟩ := s
  cases l <;> simp
theorem size_pos_of (s : ByteArray) (h0 : s.toList.isEmpty = false) : 0 < s.size := by
  rcases Nat.eq_zero_or_pos s.size with h | h
  · rw [(isEmpty_iff s).2 (by obtain ⟨⟨l⟩⟩ := s; cases l with | nil => rfl | cons a b => simp [ByteArray.size] at h)] at h0
    cases h0
  · exact h
theorem LaidW.errRange {w : World} (h : LaidW w) : ∃ tp p, w.var? Tryd.prog "strconv.ErrRange" = some #[.iface tp p] := by
  obtain ⟨w0, ⟨_, _, tp, p, hv⟩, h0⟩ := h.out
  have hg : Tryd.prog.globalNamed "strconv.ErrRange" = some 4 := by kernel_rfl
  exact ⟨tp, p, Go.Joins.var_stays hg hv h0 (Nat.le_refl _)⟩
end Go.Proofs.YtepnbnpgifpfbaaDoor.G
