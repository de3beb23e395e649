/- Lemmas and walks of this claim: GScantlinglaw03LexClass. -/
import Derived.Test.YtepnbnpgifpfbaaDoorZKb
import Derived.Test.YtepnbnpgifpfbaaDoorZKf
import Derived.Test.YtepnbnpgifpfbaaDoorZRa
import Derived.Test.YtepnbnpgifpfbaaDoorZGEAwake03
import Derived.Test.YtepnbnpgifpfbaaDoorZKxLexClass
set_option linter.unusedVariables false
set_option linter.unusedSimpArgs false
namespace Go.Proofs.YtepnbnpgifpfbaaDoor.G
open Go.RowKit Go.Proofs.YtepnbnpgifpfbaaDoorW.PrintWords Go.Proofs.YtepnbnpgifpfbaaDoorW.PrintLast Go.Proofs.YtepnbnpgifpfbaaDoorW.PrintMore
attribute [local go_sem] max2_int min2_int max_two min_two max_three min_three max_four min_four
set_option linter.unusedVariables false
set_option linter.unusedSimpArgs false
attribute [local go_sem high] eqA33
theorem hsc {w w' : World} (hb : Below w.heap.size w w') {a : Addr} {v : Value} (h : w.cell? a = some v) : w'.cell? a = some v := (hb.cell (World.block_lt_of_cell? _ _ h)).trans h
theorem hsA {w w' : World} (hb : Below w.heap.size w w') {a : Addr} {v : Value} {P Q : Prop} (h : w.cell? a = some v ∧ P) (f : P → Q) : w'.cell? a = some v ∧ Q := ⟨hsc hb h.1, f h.2⟩
def scantlinglaw03_LexClass.j0 : Nat → Int → Int → List (S35) → List (S35) → List (S35) → Int → List (S35) → Bool → Option (Bool)
  | 0, _, _, _, _, _, _, _, _ => none
  | k + 1, x0, x1, x8, x11, x14, x15, x17, x123 => if x123 = true then (none) else (if 0 < (x8.length : Int) then ((scantlingref01_Row.f k x0 x0).bind fun bt258 => (if (((rd_T35 x8 0).f2.f0) == bt258.1 && (((rd_T35 x8 0).f2.f1) == bt258.2.1 && (((rd_T35 x8 0).f2.f2) == bt258.2.2.1 && (((rd_T35 x8 0).f2.f3) == bt258.2.2.2)))) = true then (if 0 < (x11.length : Int) then ((scantlingref01_Not.f k ((rd_T35 x8 0).f2.f0) ((rd_T35 x8 0).f2.f1) ((rd_T35 x8 0).f2.f2) ((rd_T35 x8 0).f2.f3)).bind fun bt264 => (if (((rd_T35 x11 0).f2.f0) == bt264.1 && (((rd_T35 x11 0).f2.f1) == bt264.2.1 && (((rd_T35 x11 0).f2.f2) == bt264.2.2.1 && (((rd_T35 x11 0).f2.f3) == bt264.2.2.2)))) = true then (if 0 < (x17.length : Int) then ((scantlingref01_Row.f k x0 x0).bind fun bt269 => ((scantlingref01_Row.f k x1 x1).bind fun bt273 => ((scantlingref01_Join.f k bt269.1 bt269.2.1 bt269.2.2.1 bt269.2.2.2 bt273.1 bt273.2.1 bt273.2.2.1 bt273.2.2.2).bind fun bt277 => (if (((rd_T35 x17 0).f2.f0) == bt277.1 && (((rd_T35 x17 0).f2.f1) == bt277.2.1 && (((rd_T35 x17 0).f2.f2) == bt277.2.2.1 && (((rd_T35 x17 0).f2.f3) == bt277.2.2.2)))) = true then (if x15 = 0 then (if (x14.length : Int) = 2 then (if 0 < (x14.length : Int) then ((scantlingref01_Row.f k x0 x1).bind fun bt282 => (some (((rd_T35 x14 0).f2.f0) == bt282.1 && (((rd_T35 x14 0).f2.f1) == bt282.2.1 && (((rd_T35 x14 0).f2.f2) == bt282.2.2.1 && (((rd_T35 x14 0).f2.f3) == bt282.2.2.2)))))) else (none)) else (none)) else (some true)) else (none))))) else (none)) else (none))) else (none)) else (none))) else (none))
def scantlinglaw03_LexClass.f (k : Nat) (a0 : Int) (a1 : Int) : Option (Bool) := (scantlinglaw03_awake.f).bind fun t230 => (if t230 = true then (if 0 ≤ ((Int.tdiv a0 16) % 256) then (if ((Int.tdiv a0 16) % 256) < 16 then (if 0 ≤ (Int.tmod a0 16) then (if (Int.tmod a0 16) < 16 then ((some (([bt (⟨#[48, 49, 50, 51, 52, 53, 54, 55, 56, 57, 97, 98, 99, 100, 101, 102]⟩ : ByteArray) ((Int.tdiv a0 16) % 256), bt (⟨#[48, 49, 50, 51, 52, 53, 54, 55, 56, 57, 97, 98, 99, 100, 101, 102]⟩ : ByteArray) (Int.tmod a0 16)] : List Int) : List Int)).bind fun y231 => (if 0 ≤ ((Int.tdiv a1 16) % 256) then (if ((Int.tdiv a1 16) % 256) < 16 then (if 0 ≤ (Int.tmod a1 16) then (if (Int.tmod a1 16) < 16 then ((some (([bt (⟨#[48, 49, 50, 51, 52, 53, 54, 55, 56, 57, 97, 98, 99, 100, 101, 102]⟩ : ByteArray) ((Int.tdiv a1 16) % 256), bt (⟨#[48, 49, 50, 51, 52, 53, 54, 55, 56, 57, 97, 98, 99, 100, 101, 102]⟩ : ByteArray) (Int.tmod a1 16)] : List Int) : List Int)).bind fun y234 => (if 1 + (strOfNums y231).size ≤ 9223372036854775807 then (if ((⟨#[60]⟩ : ByteArray) ++ (strOfNums y231)).size + 1 ≤ 9223372036854775807 then ((lex_Read.f k (((⟨#[60]⟩ : ByteArray) ++ (strOfNums y231)) ++ (⟨#[62]⟩ : ByteArray))).bind fun bt237 => (if 2 + (strOfNums y231).size ≤ 9223372036854775807 then (if ((⟨#[60, 94]⟩ : ByteArray) ++ (strOfNums y231)).size + 1 ≤ 9223372036854775807 then ((lex_Read.f k (((⟨#[60, 94]⟩ : ByteArray) ++ (strOfNums y231)) ++ (⟨#[62]⟩ : ByteArray))).bind fun bt242 => (if (((⟨#[60]⟩ : ByteArray) ++ (strOfNums y231)) ++ (⟨#[45]⟩ : ByteArray)).size + (strOfNums y234).size ≤ 9223372036854775807 then (if ((((⟨#[60]⟩ : ByteArray) ++ (strOfNums y231)) ++ (⟨#[45]⟩ : ByteArray)) ++ (strOfNums y234)).size + 1 ≤ 9223372036854775807 then ((lex_Read.f k (((((⟨#[60]⟩ : ByteArray) ++ (strOfNums y231)) ++ (⟨#[45]⟩ : ByteArray)) ++ (strOfNums y234)) ++ (⟨#[62]⟩ : ByteArray))).bind fun bt247 => (if (((⟨#[60]⟩ : ByteArray) ++ (strOfNums y231)) ++ (⟨#[44]⟩ : ByteArray)).size + (strOfNums y234).size ≤ 9223372036854775807 then (if ((((⟨#[60]⟩ : ByteArray) ++ (strOfNums y231)) ++ (⟨#[44]⟩ : ByteArray)) ++ (strOfNums y234)).size + 1 ≤ 9223372036854775807 then (if (((((⟨#[60]⟩ : ByteArray) ++ (strOfNums y231)) ++ (⟨#[44]⟩ : ByteArray)) ++ (strOfNums y234)) ++ (⟨#[44]⟩ : ByteArray)).size + (strOfNums y231).size ≤ 9223372036854775807 then (if ((((((⟨#[60]⟩ : ByteArray) ++ (strOfNums y231)) ++ (⟨#[44]⟩ : ByteArray)) ++ (strOfNums y234)) ++ (⟨#[44]⟩ : ByteArray)) ++ (strOfNums y231)).size + 1 ≤ 9223372036854775807 then ((lex_Read.f k (((((((⟨#[60]⟩ : ByteArray) ++ (strOfNums y231)) ++ (⟨#[44]⟩ : ByteArray)) ++ (strOfNums y234)) ++ (⟨#[44]⟩ : ByteArray)) ++ (strOfNums y231)) ++ (⟨#[62]⟩ : ByteArray))).bind fun bt252 => (if bt237.2.1 = 0 then (if bt242.2.1 = 0 then (if bt252.2.1 = 0 then (if (bt237.1.length : Int) = 2 then (if (bt242.1.length : Int) = 2 then (if (bt252.1.length : Int) = 2 then (if ((bt247.2.1 == 0) != (decide (a0 ≤ a1))) = true then (none) else (if bt247.2.1 = 0 then (scantlinglaw03_LexClass.j0 k a0 a1 bt237.1 bt242.1 bt247.1 bt247.2.1 bt252.1 false) else (scantlinglaw03_LexClass.j0 k a0 a1 bt237.1 bt242.1 bt247.1 bt247.2.1 bt252.1 (bt247.2.1 != 2)))) else (none)) else (none)) else (none)) else (none)) else (none)) else (none))) else (none)) else (none)) else (none)) else (none))) else (none)) else (none))) else (none)) else (none))) else (none)) else (none))) else (none)) else (none)) else (none)) else (none))) else (none)) else (none)) else (none)) else (none)) else (none))
def scantlinglaw03_LexClass.T4 : Bool × List (List Nat × List Nat) := (true, [([], []), ([], []), ([1], [1]), ([0, 2], [0, 2]), ([], []), ([], []), ([5], [5]), ([4, 6], [4, 6]), ([3, 7], [3, 7]), ([8], [8]), ([9, 0, 1, 2, 3, 4, 5, 6, 7, 8, 9], [9])])
def scantlinglaw03_LexClass.B4 : List Nat := [0, 0, 2, 7, 0, 0, 32, 112, 255, 511, 1023]
theorem scantlinglaw03_LexClass.tab4 : rtab .any (opsOf Tryd.f6 4) = scantlinglaw03_LexClass.T4 := by kernel_rfl
theorem scantlinglaw03_LexClass.bits4 : waitsOk scantlinglaw03_LexClass.T4.2 scantlinglaw03_LexClass.B4 = true := by kernel_rfl
def scantlinglaw03_LexClass.T5 : Bool × List (List Nat × List Nat) := (true, [([], []), ([], []), ([1], [1]), ([0, 2], [0, 2]), ([], []), ([], []), ([5], [5]), ([4, 6], [4, 6]), ([3, 7], [3, 7]), ([8], [8]), ([9, 0, 1, 2, 3, 4, 5, 6, 7, 8, 9], [9])])
def scantlinglaw03_LexClass.B5 : List Nat := [0, 0, 2, 7, 0, 0, 32, 112, 255, 511, 1023]
theorem scantlinglaw03_LexClass.tab5 : rtab .any (opsOf Tryd.f6 5) = scantlinglaw03_LexClass.T5 := by kernel_rfl
theorem scantlinglaw03_LexClass.bits5 : waitsOk scantlinglaw03_LexClass.T5.2 scantlinglaw03_LexClass.B5 = true := by kernel_rfl
def scantlinglaw03_LexClass.T12 : Bool × List (List Nat × List Nat) := (true, [([], []), ([0], [0]), ([1], [1]), ([2], [2]), ([], []), ([], []), ([4, 5], [4, 5]), ([3, 6], [3, 6]), ([7, 6], [7]), ([8], [8]), ([9, 8], [8, 9]), ([10, 8], [8, 10]), ([11, 8], [8, 11]), ([8], [8]), ([13, 8], [8, 13]), ([14, 8], [8, 14]), ([15, 8], [8, 15]), ([16, 8, 8], [8, 16]), ([12, 17, 8], [8, 12, 17]), ([8, 18], [8, 18]), ([19, 17], [19]), ([20], [20]), ([21, 20], [20, 21]), ([22, 20], [20, 22]), ([23, 20], [20, 23]), ([20], [20]), ([20], [20]), ([25, 26, 20, 20], [20, 25, 26]), ([20], [20]), ([20], [20]), ([28, 29, 27, 20], [20, 28, 29]), ([27, 30, 30, 20], [20, 27, 30]), ([24, 31, 20], [20, 24, 31]), ([20, 32], [20, 32]), ([33, 31], [33]), ([34], [34]), ([35, 34], [34, 35]), ([36, 34, 34], [34, 36]), ([37], [37]), ([38, 37], [37, 38]), ([39, 37], [37, 39]), ([40, 37, 37], [37, 40]), ([41], [41]), ([42, 41], [41, 42]), ([43, 41], [41, 43]), ([44, 41], [41, 44]), ([41], [41]), ([41], [41]), ([46, 47, 41, 41], [41, 46, 47]), ([45, 48, 41], [41, 45, 48]), ([41, 49, 37], [37, 41, 49]), ([37, 50, 34], [34, 37, 50]), ([34, 51], [34, 51]), ([52, 48, 0, 1, 2, 3, 4, 5, 6, 7, 8, 9, 10, 11, 12, 13, 14, 15, 16, 17, 18, 19, 20, 21, 22, 23, 24, 25, 26, 27, 28, 29, 30, 31, 32, 33, 34, 35, 36, 37, 38, 39, 40, 41, 42, 43, 44, 45, 46, 47, 48, 49, 50, 51, 52], [52])])
def scantlinglaw03_LexClass.B12 : List Nat := [0, 1, 3, 7, 0, 0, 48, 127, 255, 511, 1023, 2047, 4095, 511, 8703, 25087, 57855, 123391, 262143, 524287, 1048575, 2097151, 4194303, 8388607, 16777215, 2097151, 2097151, 102760447, 2097151, 2097151, 1042284543, 2116026367, 4294967295, 8589934591, 17179869183, 34359738367, 68719476735, 137438953471, 274877906943, 549755813887, 1099511627775, 2199023255551, 4398046511103, 8796093022207, 17592186044415, 35184372088831, 4398046511103, 4398046511103, 215504279044095, 562949953421311, 1125899906842623, 2251799813685247, 4503599627370495, 9007199254740991]
theorem scantlinglaw03_LexClass.tab12 : rtab .any (opsOf Tryd.f6 12) = scantlinglaw03_LexClass.T12 := by kernel_rfl
theorem scantlinglaw03_LexClass.bits12 : waitsOk scantlinglaw03_LexClass.T12.2 scantlinglaw03_LexClass.B12 = true := by kernel_rfl
set_option maxHeartbeats 8000000 in
set_option maxRecDepth 100000 in
theorem scantlinglaw03_LexClass.calls (k : Nat) (a0 : Int) (a1 : Int) (r : Bool) (w : World) (hL_ : LaidW w) (h : scantlinglaw03_LexClass.f k a0 a1 = some r) :
    Calls Tryd.prog 6 #[.int .u8 a0, .int .u8 a1] w fun e w' => e = .returned (.bool r) ∧ Below w.heap.size w w' := by
  have hu33 := Tryd.underlying33
  have HB := Aside0.mk (Below.refl w.heap.size w)
  have H : ((scantlinglaw03_awake.f).bind fun t230 => (if t230 = true then (if 0 ≤ ((Int.tdiv a0 16) % 256) then (if ((Int.tdiv a0 16) % 256) < 16 then (if 0 ≤ (Int.tmod a0 16) then (if (Int.tmod a0 16) < 16 then ((some (([bt (⟨#[48, 49, 50, 51, 52, 53, 54, 55, 56, 57, 97, 98, 99, 100, 101, 102]⟩ : ByteArray) ((Int.tdiv a0 16) % 256), bt (⟨#[48, 49, 50, 51, 52, 53, 54, 55, 56, 57, 97, 98, 99, 100, 101, 102]⟩ : ByteArray) (Int.tmod a0 16)] : List Int) : List Int)).bind fun y231 => (if 0 ≤ ((Int.tdiv a1 16) % 256) then (if ((Int.tdiv a1 16) % 256) < 16 then (if 0 ≤ (Int.tmod a1 16) then (if (Int.tmod a1 16) < 16 then ((some (([bt (⟨#[48, 49, 50, 51, 52, 53, 54, 55, 56, 57, 97, 98, 99, 100, 101, 102]⟩ : ByteArray) ((Int.tdiv a1 16) % 256), bt (⟨#[48, 49, 50, 51, 52, 53, 54, 55, 56, 57, 97, 98, 99, 100, 101, 102]⟩ : ByteArray) (Int.tmod a1 16)] : List Int) : List Int)).bind fun y234 => (if 1 + (strOfNums y231).size ≤ 9223372036854775807 then (if ((⟨#[60]⟩ : ByteArray) ++ (strOfNums y231)).size + 1 ≤ 9223372036854775807 then ((lex_Read.f k (((⟨#[60]⟩ : ByteArray) ++ (strOfNums y231)) ++ (⟨#[62]⟩ : ByteArray))).bind fun bt237 => (if 2 + (strOfNums y231).size ≤ 9223372036854775807 then (if ((⟨#[60, 94]⟩ : ByteArray) ++ (strOfNums y231)).size + 1 ≤ 9223372036854775807 then ((lex_Read.f k (((⟨#[60, 94]⟩ : ByteArray) ++ (strOfNums y231)) ++ (⟨#[62]⟩ : ByteArray))).bind fun bt242 => (if (((⟨#[60]⟩ : ByteArray) ++ (strOfNums y231)) ++ (⟨#[45]⟩ : ByteArray)).size + (strOfNums y234).size ≤ 9223372036854775807 then (if ((((⟨#[60]⟩ : ByteArray) ++ (strOfNums y231)) ++ (⟨#[45]⟩ : ByteArray)) ++ (strOfNums y234)).size + 1 ≤ 9223372036854775807 then ((lex_Read.f k (((((⟨#[60]⟩ : ByteArray) ++ (strOfNums y231)) ++ (⟨#[45]⟩ : ByteArray)) ++ (strOfNums y234)) ++ (⟨#[62]⟩ : ByteArray))).bind fun bt247 => (if (((⟨#[60]⟩ : ByteArray) ++ (strOfNums y231)) ++ (⟨#[44]⟩ : ByteArray)).size + (strOfNums y234).size ≤ 9223372036854775807 then (if ((((⟨#[60]⟩ : ByteArray) ++ (strOfNums y231)) ++ (⟨#[44]⟩ : ByteArray)) ++ (strOfNums y234)).size + 1 ≤ 9223372036854775807 then (if (((((⟨#[60]⟩ : ByteArray) ++ (strOfNums y231)) ++ (⟨#[44]⟩ : ByteArray)) ++ (strOfNums y234)) ++ (⟨#[44]⟩ : ByteArray)).size + (strOfNums y231).size ≤ 9223372036854775807 then (if ((((((⟨#[60]⟩ : ByteArray) ++ (strOfNums y231)) ++ (⟨#[44]⟩ : ByteArray)) ++ (strOfNums y234)) ++ (⟨#[44]⟩ : ByteArray)) ++ (strOfNums y231)).size + 1 ≤ 9223372036854775807 then ((lex_Read.f k (((((((⟨#[60]⟩ : ByteArray) ++ (strOfNums y231)) ++ (⟨#[44]⟩ : ByteArray)) ++ (strOfNums y234)) ++ (⟨#[44]⟩ : ByteArray)) ++ (strOfNums y231)) ++ (⟨#[62]⟩ : ByteArray))).bind fun bt252 => (if bt237.2.1 = 0 then (if bt242.2.1 = 0 then (if bt252.2.1 = 0 then (if (bt237.1.length : Int) = 2 then (if (bt242.1.length : Int) = 2 then (if (bt252.1.length : Int) = 2 then (if ((bt247.2.1 == 0) != (decide (a0 ≤ a1))) = true then (none) else (if bt247.2.1 = 0 then (scantlinglaw03_LexClass.j0 k a0 a1 bt237.1 bt242.1 bt247.1 bt247.2.1 bt252.1 false) else (scantlinglaw03_LexClass.j0 k a0 a1 bt237.1 bt242.1 bt247.1 bt247.2.1 bt252.1 (bt247.2.1 != 2)))) else (none)) else (none)) else (none)) else (none)) else (none)) else (none))) else (none)) else (none)) else (none)) else (none))) else (none)) else (none))) else (none)) else (none))) else (none)) else (none))) else (none)) else (none)) else (none)) else (none))) else (none)) else (none)) else (none)) else (none)) else (none))) = some r := h
  clear h
  replace H := Option.bind_eq_some_iff.mp H
  obtain ⟨t230, A30, H⟩ := H
  replace H : (if t230 = true then (if 0 ≤ ((Int.tdiv a0 16) % 256) then (if ((Int.tdiv a0 16) % 256) < 16 then (if 0 ≤ (Int.tmod a0 16) then (if (Int.tmod a0 16) < 16 then ((some (([bt (⟨#[48, 49, 50, 51, 52, 53, 54, 55, 56, 57, 97, 98, 99, 100, 101, 102]⟩ : ByteArray) ((Int.tdiv a0 16) % 256), bt (⟨#[48, 49, 50, 51, 52, 53, 54, 55, 56, 57, 97, 98, 99, 100, 101, 102]⟩ : ByteArray) (Int.tmod a0 16)] : List Int) : List Int)).bind fun y231 => (if 0 ≤ ((Int.tdiv a1 16) % 256) then (if ((Int.tdiv a1 16) % 256) < 16 then (if 0 ≤ (Int.tmod a1 16) then (if (Int.tmod a1 16) < 16 then ((some (([bt (⟨#[48, 49, 50, 51, 52, 53, 54, 55, 56, 57, 97, 98, 99, 100, 101, 102]⟩ : ByteArray) ((Int.tdiv a1 16) % 256), bt (⟨#[48, 49, 50, 51, 52, 53, 54, 55, 56, 57, 97, 98, 99, 100, 101, 102]⟩ : ByteArray) (Int.tmod a1 16)] : List Int) : List Int)).bind fun y234 => (if 1 + (strOfNums y231).size ≤ 9223372036854775807 then (if ((⟨#[60]⟩ : ByteArray) ++ (strOfNums y231)).size + 1 ≤ 9223372036854775807 then ((lex_Read.f k (((⟨#[60]⟩ : ByteArray) ++ (strOfNums y231)) ++ (⟨#[62]⟩ : ByteArray))).bind fun bt237 => (if 2 + (strOfNums y231).size ≤ 9223372036854775807 then (if ((⟨#[60, 94]⟩ : ByteArray) ++ (strOfNums y231)).size + 1 ≤ 9223372036854775807 then ((lex_Read.f k (((⟨#[60, 94]⟩ : ByteArray) ++ (strOfNums y231)) ++ (⟨#[62]⟩ : ByteArray))).bind fun bt242 => (if (((⟨#[60]⟩ : ByteArray) ++ (strOfNums y231)) ++ (⟨#[45]⟩ : ByteArray)).size + (strOfNums y234).size ≤ 9223372036854775807 then (if ((((⟨#[60]⟩ : ByteArray) ++ (strOfNums y231)) ++ (⟨#[45]⟩ : ByteArray)) ++ (strOfNums y234)).size + 1 ≤ 9223372036854775807 then ((lex_Read.f k (((((⟨#[60]⟩ : ByteArray) ++ (strOfNums y231)) ++ (⟨#[45]⟩ : ByteArray)) ++ (strOfNums y234)) ++ (⟨#[62]⟩ : ByteArray))).bind fun bt247 => (if (((⟨#[60]⟩ : ByteArray) ++ (strOfNums y231)) ++ (⟨#[44]⟩ : ByteArray)).size + (strOfNums y234).size ≤ 9223372036854775807 then (if ((((⟨#[60]⟩ : ByteArray) ++ (strOfNums y231)) ++ (⟨#[44]⟩ : ByteArray)) ++ (strOfNums y234)).size + 1 ≤ 9223372036854775807 then (if (((((⟨#[60]⟩ : ByteArray) ++ (strOfNums y231)) ++ (⟨#[44]⟩ : ByteArray)) ++ (strOfNums y234)) ++ (⟨#[44]⟩ : ByteArray)).size + (strOfNums y231).size ≤ 9223372036854775807 then (if ((((((⟨#[60]⟩ : ByteArray) ++ (strOfNums y231)) ++ (⟨#[44]⟩ : ByteArray)) ++ (strOfNums y234)) ++ (⟨#[44]⟩ : ByteArray)) ++ (strOfNums y231)).size + 1 ≤ 9223372036854775807 then ((lex_Read.f k (((((((⟨#[60]⟩ : ByteArray) ++ (strOfNums y231)) ++ (⟨#[44]⟩ : ByteArray)) ++ (strOfNums y234)) ++ (⟨#[44]⟩ : ByteArray)) ++ (strOfNums y231)) ++ (⟨#[62]⟩ : ByteArray))).bind fun bt252 => (if bt237.2.1 = 0 then (if bt242.2.1 = 0 then (if bt252.2.1 = 0 then (if (bt237.1.length : Int) = 2 then (if (bt242.1.length : Int) = 2 then (if (bt252.1.length : Int) = 2 then (if ((bt247.2.1 == 0) != (decide (a0 ≤ a1))) = true then (none) else (if bt247.2.1 = 0 then (scantlinglaw03_LexClass.j0 k a0 a1 bt237.1 bt242.1 bt247.1 bt247.2.1 bt252.1 false) else (scantlinglaw03_LexClass.j0 k a0 a1 bt237.1 bt242.1 bt247.1 bt247.2.1 bt252.1 (bt247.2.1 != 2)))) else (none)) else (none)) else (none)) else (none)) else (none)) else (none))) else (none)) else (none)) else (none)) else (none))) else (none)) else (none))) else (none)) else (none))) else (none)) else (none))) else (none)) else (none)) else (none)) else (none))) else (none)) else (none)) else (none)) else (none)) else (none)) = some r := H
  have A3 := Aside0.mk A30
  clear A30
  by_cases c4 : t230 = true
  case neg => rw [if_neg c4] at H; exact absurd H (by simp)
  subst c4
  have H1 : (if 0 ≤ ((Int.tdiv a0 16) % 256) then (if ((Int.tdiv a0 16) % 256) < 16 then (if 0 ≤ (Int.tmod a0 16) then (if (Int.tmod a0 16) < 16 then ((some (([bt (⟨#[48, 49, 50, 51, 52, 53, 54, 55, 56, 57, 97, 98, 99, 100, 101, 102]⟩ : ByteArray) ((Int.tdiv a0 16) % 256), bt (⟨#[48, 49, 50, 51, 52, 53, 54, 55, 56, 57, 97, 98, 99, 100, 101, 102]⟩ : ByteArray) (Int.tmod a0 16)] : List Int) : List Int)).bind fun y231 => (if 0 ≤ ((Int.tdiv a1 16) % 256) then (if ((Int.tdiv a1 16) % 256) < 16 then (if 0 ≤ (Int.tmod a1 16) then (if (Int.tmod a1 16) < 16 then ((some (([bt (⟨#[48, 49, 50, 51, 52, 53, 54, 55, 56, 57, 97, 98, 99, 100, 101, 102]⟩ : ByteArray) ((Int.tdiv a1 16) % 256), bt (⟨#[48, 49, 50, 51, 52, 53, 54, 55, 56, 57, 97, 98, 99, 100, 101, 102]⟩ : ByteArray) (Int.tmod a1 16)] : List Int) : List Int)).bind fun y234 => (if 1 + (strOfNums y231).size ≤ 9223372036854775807 then (if ((⟨#[60]⟩ : ByteArray) ++ (strOfNums y231)).size + 1 ≤ 9223372036854775807 then ((lex_Read.f k (((⟨#[60]⟩ : ByteArray) ++ (strOfNums y231)) ++ (⟨#[62]⟩ : ByteArray))).bind fun bt237 => (if 2 + (strOfNums y231).size ≤ 9223372036854775807 then (if ((⟨#[60, 94]⟩ : ByteArray) ++ (strOfNums y231)).size + 1 ≤ 9223372036854775807 then ((lex_Read.f k (((⟨#[60, 94]⟩ : ByteArray) ++ (strOfNums y231)) ++ (⟨#[62]⟩ : ByteArray))).bind fun bt242 => (if (((⟨#[60]⟩ : ByteArray) ++ (strOfNums y231)) ++ (⟨#[45]⟩ : ByteArray)).size + (strOfNums y234).size ≤ 9223372036854775807 then (if ((((⟨#[60]⟩ : ByteArray) ++ (strOfNums y231)) ++ (⟨#[45]⟩ : ByteArray)) ++ (strOfNums y234)).size + 1 ≤ 9223372036854775807 then ((lex_Read.f k (((((⟨#[60]⟩ : ByteArray) ++ (strOfNums y231)) ++ (⟨#[45]⟩ : ByteArray)) ++ (strOfNums y234)) ++ (⟨#[62]⟩ : ByteArray))).bind fun bt247 => (if (((⟨#[60]⟩ : ByteArray) ++ (strOfNums y231)) ++ (⟨#[44]⟩ : ByteArray)).size + (strOfNums y234).size ≤ 9223372036854775807 then (if ((((⟨#[60]⟩ : ByteArray) ++ (strOfNums y231)) ++ (⟨#[44]⟩ : ByteArray)) ++ (strOfNums y234)).size + 1 ≤ 9223372036854775807 then (if (((((⟨#[60]⟩ : ByteArray) ++ (strOfNums y231)) ++ (⟨#[44]⟩ : ByteArray)) ++ (strOfNums y234)) ++ (⟨#[44]⟩ : ByteArray)).size + (strOfNums y231).size ≤ 9223372036854775807 then (if ((((((⟨#[60]⟩ : ByteArray) ++ (strOfNums y231)) ++ (⟨#[44]⟩ : ByteArray)) ++ (strOfNums y234)) ++ (⟨#[44]⟩ : ByteArray)) ++ (strOfNums y231)).size + 1 ≤ 9223372036854775807 then ((lex_Read.f k (((((((⟨#[60]⟩ : ByteArray) ++ (strOfNums y231)) ++ (⟨#[44]⟩ : ByteArray)) ++ (strOfNums y234)) ++ (⟨#[44]⟩ : ByteArray)) ++ (strOfNums y231)) ++ (⟨#[62]⟩ : ByteArray))).bind fun bt252 => (if bt237.2.1 = 0 then (if bt242.2.1 = 0 then (if bt252.2.1 = 0 then (if (bt237.1.length : Int) = 2 then (if (bt242.1.length : Int) = 2 then (if (bt252.1.length : Int) = 2 then (if ((bt247.2.1 == 0) != (decide (a0 ≤ a1))) = true then (none) else (if bt247.2.1 = 0 then (scantlinglaw03_LexClass.j0 k a0 a1 bt237.1 bt242.1 bt247.1 bt247.2.1 bt252.1 false) else (scantlinglaw03_LexClass.j0 k a0 a1 bt237.1 bt242.1 bt247.1 bt247.2.1 bt252.1 (bt247.2.1 != 2)))) else (none)) else (none)) else (none)) else (none)) else (none)) else (none))) else (none)) else (none)) else (none)) else (none))) else (none)) else (none))) else (none)) else (none))) else (none)) else (none))) else (none)) else (none)) else (none)) else (none))) else (none)) else (none)) else (none)) else (none)) = some r := by rw [if_pos rfl] at H; exact H
  clear H
  have H := H1
  clear H1
  obtain ⟨ji5, hji5⟩ : ∃ j_ : Int, ((Int.tdiv a0 16) % 256) = j_ := ⟨_, rfl⟩
  have hu5 : IntKind.u8.wrap (Int.tdiv a0 16) = ji5 := by rw [← hji5]; simp [IntKind.wrap, IntKind.bits, IntKind.signed]
  replace H : (if 0 ≤ (ji5) then (if (ji5) < 16 then (if 0 ≤ (Int.tmod a0 16) then (if (Int.tmod a0 16) < 16 then ((some (([bt (⟨#[48, 49, 50, 51, 52, 53, 54, 55, 56, 57, 97, 98, 99, 100, 101, 102]⟩ : ByteArray) (ji5), bt (⟨#[48, 49, 50, 51, 52, 53, 54, 55, 56, 57, 97, 98, 99, 100, 101, 102]⟩ : ByteArray) (Int.tmod a0 16)] : List Int) : List Int)).bind fun y231 => (if 0 ≤ ((Int.tdiv a1 16) % 256) then (if ((Int.tdiv a1 16) % 256) < 16 then (if 0 ≤ (Int.tmod a1 16) then (if (Int.tmod a1 16) < 16 then ((some (([bt (⟨#[48, 49, 50, 51, 52, 53, 54, 55, 56, 57, 97, 98, 99, 100, 101, 102]⟩ : ByteArray) ((Int.tdiv a1 16) % 256), bt (⟨#[48, 49, 50, 51, 52, 53, 54, 55, 56, 57, 97, 98, 99, 100, 101, 102]⟩ : ByteArray) (Int.tmod a1 16)] : List Int) : List Int)).bind fun y234 => (if 1 + (strOfNums y231).size ≤ 9223372036854775807 then (if ((⟨#[60]⟩ : ByteArray) ++ (strOfNums y231)).size + 1 ≤ 9223372036854775807 then ((lex_Read.f k (((⟨#[60]⟩ : ByteArray) ++ (strOfNums y231)) ++ (⟨#[62]⟩ : ByteArray))).bind fun bt237 => (if 2 + (strOfNums y231).size ≤ 9223372036854775807 then (if ((⟨#[60, 94]⟩ : ByteArray) ++ (strOfNums y231)).size + 1 ≤ 9223372036854775807 then ((lex_Read.f k (((⟨#[60, 94]⟩ : ByteArray) ++ (strOfNums y231)) ++ (⟨#[62]⟩ : ByteArray))).bind fun bt242 => (if (((⟨#[60]⟩ : ByteArray) ++ (strOfNums y231)) ++ (⟨#[45]⟩ : ByteArray)).size + (strOfNums y234).size ≤ 9223372036854775807 then (if ((((⟨#[60]⟩ : ByteArray) ++ (strOfNums y231)) ++ (⟨#[45]⟩ : ByteArray)) ++ (strOfNums y234)).size + 1 ≤ 9223372036854775807 then ((lex_Read.f k (((((⟨#[60]⟩ : ByteArray) ++ (strOfNums y231)) ++ (⟨#[45]⟩ : ByteArray)) ++ (strOfNums y234)) ++ (⟨#[62]⟩ : ByteArray))).bind fun bt247 => (if (((⟨#[60]⟩ : ByteArray) ++ (strOfNums y231)) ++ (⟨#[44]⟩ : ByteArray)).size + (strOfNums y234).size ≤ 9223372036854775807 then (if ((((⟨#[60]⟩ : ByteArray) ++ (strOfNums y231)) ++ (⟨#[44]⟩ : ByteArray)) ++ (strOfNums y234)).size + 1 ≤ 9223372036854775807 then (if (((((⟨#[60]⟩ : ByteArray) ++ (strOfNums y231)) ++ (⟨#[44]⟩ : ByteArray)) ++ (strOfNums y234)) ++ (⟨#[44]⟩ : ByteArray)).size + (strOfNums y231).size ≤ 9223372036854775807 then (if ((((((⟨#[60]⟩ : ByteArray) ++ (strOfNums y231)) ++ (⟨#[44]⟩ : ByteArray)) ++ (strOfNums y234)) ++ (⟨#[44]⟩ : ByteArray)) ++ (strOfNums y231)).size + 1 ≤ 9223372036854775807 then ((lex_Read.f k (((((((⟨#[60]⟩ : ByteArray) ++ (strOfNums y231)) ++ (⟨#[44]⟩ : ByteArray)) ++ (strOfNums y234)) ++ (⟨#[44]⟩ : ByteArray)) ++ (strOfNums y231)) ++ (⟨#[62]⟩ : ByteArray))).bind fun bt252 => (if bt237.2.1 = 0 then (if bt242.2.1 = 0 then (if bt252.2.1 = 0 then (if (bt237.1.length : Int) = 2 then (if (bt242.1.length : Int) = 2 then (if (bt252.1.length : Int) = 2 then (if ((bt247.2.1 == 0) != (decide (a0 ≤ a1))) = true then (none) else (if bt247.2.1 = 0 then (scantlinglaw03_LexClass.j0 k a0 a1 bt237.1 bt242.1 bt247.1 bt247.2.1 bt252.1 false) else (scantlinglaw03_LexClass.j0 k a0 a1 bt237.1 bt242.1 bt247.1 bt247.2.1 bt252.1 (bt247.2.1 != 2)))) else (none)) else (none)) else (none)) else (none)) else (none)) else (none))) else (none)) else (none)) else (none)) else (none))) else (none)) else (none))) else (none)) else (none))) else (none)) else (none))) else (none)) else (none)) else (none)) else (none))) else (none)) else (none)) else (none)) else (none)) = some r := by first | (rw [hji5] at H; exact H) | (simp only [hji5] at H ⊢; exact H)
  (try rw [hji5] at A3)
  by_cases c6 : 0 ≤ (ji5)
  case neg => rw [if_neg c6] at H; exact absurd H (by simp)
  rw [if_pos c6] at H
  have c6b0 : decide (0 ≤ (ji5)) = true := decide_eq_true c6
  clear c6
  by_cases c7 : (ji5) < 16
  case neg => rw [if_neg c7] at H; exact absurd H (by simp)
  rw [if_pos c7] at H
  have c7b0 : decide ((ji5) < 16) = true := decide_eq_true c7
  clear c7
  obtain ⟨ji9, hji9⟩ : ∃ j_ : Int, (Int.tmod a0 16) = j_ := ⟨_, rfl⟩
  replace H : (if 0 ≤ (ji9) then (if (ji9) < 16 then ((some (([bt (⟨#[48, 49, 50, 51, 52, 53, 54, 55, 56, 57, 97, 98, 99, 100, 101, 102]⟩ : ByteArray) (ji5), bt (⟨#[48, 49, 50, 51, 52, 53, 54, 55, 56, 57, 97, 98, 99, 100, 101, 102]⟩ : ByteArray) (ji9)] : List Int) : List Int)).bind fun y231 => (if 0 ≤ ((Int.tdiv a1 16) % 256) then (if ((Int.tdiv a1 16) % 256) < 16 then (if 0 ≤ (Int.tmod a1 16) then (if (Int.tmod a1 16) < 16 then ((some (([bt (⟨#[48, 49, 50, 51, 52, 53, 54, 55, 56, 57, 97, 98, 99, 100, 101, 102]⟩ : ByteArray) ((Int.tdiv a1 16) % 256), bt (⟨#[48, 49, 50, 51, 52, 53, 54, 55, 56, 57, 97, 98, 99, 100, 101, 102]⟩ : ByteArray) (Int.tmod a1 16)] : List Int) : List Int)).bind fun y234 => (if 1 + (strOfNums y231).size ≤ 9223372036854775807 then (if ((⟨#[60]⟩ : ByteArray) ++ (strOfNums y231)).size + 1 ≤ 9223372036854775807 then ((lex_Read.f k (((⟨#[60]⟩ : ByteArray) ++ (strOfNums y231)) ++ (⟨#[62]⟩ : ByteArray))).bind fun bt237 => (if 2 + (strOfNums y231).size ≤ 9223372036854775807 then (if ((⟨#[60, 94]⟩ : ByteArray) ++ (strOfNums y231)).size + 1 ≤ 9223372036854775807 then ((lex_Read.f k (((⟨#[60, 94]⟩ : ByteArray) ++ (strOfNums y231)) ++ (⟨#[62]⟩ : ByteArray))).bind fun bt242 => (if (((⟨#[60]⟩ : ByteArray) ++ (strOfNums y231)) ++ (⟨#[45]⟩ : ByteArray)).size + (strOfNums y234).size ≤ 9223372036854775807 then (if ((((⟨#[60]⟩ : ByteArray) ++ (strOfNums y231)) ++ (⟨#[45]⟩ : ByteArray)) ++ (strOfNums y234)).size + 1 ≤ 9223372036854775807 then ((lex_Read.f k (((((⟨#[60]⟩ : ByteArray) ++ (strOfNums y231)) ++ (⟨#[45]⟩ : ByteArray)) ++ (strOfNums y234)) ++ (⟨#[62]⟩ : ByteArray))).bind fun bt247 => (if (((⟨#[60]⟩ : ByteArray) ++ (strOfNums y231)) ++ (⟨#[44]⟩ : ByteArray)).size + (strOfNums y234).size ≤ 9223372036854775807 then (if ((((⟨#[60]⟩ : ByteArray) ++ (strOfNums y231)) ++ (⟨#[44]⟩ : ByteArray)) ++ (strOfNums y234)).size + 1 ≤ 9223372036854775807 then (if (((((⟨#[60]⟩ : ByteArray) ++ (strOfNums y231)) ++ (⟨#[44]⟩ : ByteArray)) ++ (strOfNums y234)) ++ (⟨#[44]⟩ : ByteArray)).size + (strOfNums y231).size ≤ 9223372036854775807 then (if ((((((⟨#[60]⟩ : ByteArray) ++ (strOfNums y231)) ++ (⟨#[44]⟩ : ByteArray)) ++ (strOfNums y234)) ++ (⟨#[44]⟩ : ByteArray)) ++ (strOfNums y231)).size + 1 ≤ 9223372036854775807 then ((lex_Read.f k (((((((⟨#[60]⟩ : ByteArray) ++ (strOfNums y231)) ++ (⟨#[44]⟩ : ByteArray)) ++ (strOfNums y234)) ++ (⟨#[44]⟩ : ByteArray)) ++ (strOfNums y231)) ++ (⟨#[62]⟩ : ByteArray))).bind fun bt252 => (if bt237.2.1 = 0 then (if bt242.2.1 = 0 then (if bt252.2.1 = 0 then (if (bt237.1.length : Int) = 2 then (if (bt242.1.length : Int) = 2 then (if (bt252.1.length : Int) = 2 then (if ((bt247.2.1 == 0) != (decide (a0 ≤ a1))) = true then (none) else (if bt247.2.1 = 0 then (scantlinglaw03_LexClass.j0 k a0 a1 bt237.1 bt242.1 bt247.1 bt247.2.1 bt252.1 false) else (scantlinglaw03_LexClass.j0 k a0 a1 bt237.1 bt242.1 bt247.1 bt247.2.1 bt252.1 (bt247.2.1 != 2)))) else (none)) else (none)) else (none)) else (none)) else (none)) else (none))) else (none)) else (none)) else (none)) else (none))) else (none)) else (none))) else (none)) else (none))) else (none)) else (none))) else (none)) else (none)) else (none)) else (none))) else (none)) else (none)) = some r := by first | (rw [hji9] at H; exact H) | (simp only [hji9] at H ⊢; exact H)
  (try rw [hji9] at A3)
  by_cases c10 : 0 ≤ (ji9)
  case neg => rw [if_neg c10] at H; exact absurd H (by simp)
  rw [if_pos c10] at H
  have c10b0 : decide (0 ≤ (ji9)) = true := decide_eq_true c10
  clear c10
  by_cases c11 : (ji9) < 16
  case neg => rw [if_neg c11] at H; exact absurd H (by simp)
  rw [if_pos c11] at H
  have c11b0 : decide ((ji9) < 16) = true := decide_eq_true c11
  clear c11
  obtain ⟨y231, hy231⟩ : ∃ y_ : List Int, y_ = (([bt (⟨#[48, 49, 50, 51, 52, 53, 54, 55, 56, 57, 97, 98, 99, 100, 101, 102]⟩ : ByteArray) (ji5), bt (⟨#[48, 49, 50, 51, 52, 53, 54, 55, 56, 57, 97, 98, 99, 100, 101, 102]⟩ : ByteArray) (ji9)] : List Int)) := ⟨_, rfl⟩
  replace H : (if 0 ≤ ((Int.tdiv a1 16) % 256) then (if ((Int.tdiv a1 16) % 256) < 16 then (if 0 ≤ (Int.tmod a1 16) then (if (Int.tmod a1 16) < 16 then ((some (([bt (⟨#[48, 49, 50, 51, 52, 53, 54, 55, 56, 57, 97, 98, 99, 100, 101, 102]⟩ : ByteArray) ((Int.tdiv a1 16) % 256), bt (⟨#[48, 49, 50, 51, 52, 53, 54, 55, 56, 57, 97, 98, 99, 100, 101, 102]⟩ : ByteArray) (Int.tmod a1 16)] : List Int) : List Int)).bind fun y234 => (if 1 + (strOfNums y231).size ≤ 9223372036854775807 then (if ((⟨#[60]⟩ : ByteArray) ++ (strOfNums y231)).size + 1 ≤ 9223372036854775807 then ((lex_Read.f k (((⟨#[60]⟩ : ByteArray) ++ (strOfNums y231)) ++ (⟨#[62]⟩ : ByteArray))).bind fun bt237 => (if 2 + (strOfNums y231).size ≤ 9223372036854775807 then (if ((⟨#[60, 94]⟩ : ByteArray) ++ (strOfNums y231)).size + 1 ≤ 9223372036854775807 then ((lex_Read.f k (((⟨#[60, 94]⟩ : ByteArray) ++ (strOfNums y231)) ++ (⟨#[62]⟩ : ByteArray))).bind fun bt242 => (if (((⟨#[60]⟩ : ByteArray) ++ (strOfNums y231)) ++ (⟨#[45]⟩ : ByteArray)).size + (strOfNums y234).size ≤ 9223372036854775807 then (if ((((⟨#[60]⟩ : ByteArray) ++ (strOfNums y231)) ++ (⟨#[45]⟩ : ByteArray)) ++ (strOfNums y234)).size + 1 ≤ 9223372036854775807 then ((lex_Read.f k (((((⟨#[60]⟩ : ByteArray) ++ (strOfNums y231)) ++ (⟨#[45]⟩ : ByteArray)) ++ (strOfNums y234)) ++ (⟨#[62]⟩ : ByteArray))).bind fun bt247 => (if (((⟨#[60]⟩ : ByteArray) ++ (strOfNums y231)) ++ (⟨#[44]⟩ : ByteArray)).size + (strOfNums y234).size ≤ 9223372036854775807 then (if ((((⟨#[60]⟩ : ByteArray) ++ (strOfNums y231)) ++ (⟨#[44]⟩ : ByteArray)) ++ (strOfNums y234)).size + 1 ≤ 9223372036854775807 then (if (((((⟨#[60]⟩ : ByteArray) ++ (strOfNums y231)) ++ (⟨#[44]⟩ : ByteArray)) ++ (strOfNums y234)) ++ (⟨#[44]⟩ : ByteArray)).size + (strOfNums y231).size ≤ 9223372036854775807 then (if ((((((⟨#[60]⟩ : ByteArray) ++ (strOfNums y231)) ++ (⟨#[44]⟩ : ByteArray)) ++ (strOfNums y234)) ++ (⟨#[44]⟩ : ByteArray)) ++ (strOfNums y231)).size + 1 ≤ 9223372036854775807 then ((lex_Read.f k (((((((⟨#[60]⟩ : ByteArray) ++ (strOfNums y231)) ++ (⟨#[44]⟩ : ByteArray)) ++ (strOfNums y234)) ++ (⟨#[44]⟩ : ByteArray)) ++ (strOfNums y231)) ++ (⟨#[62]⟩ : ByteArray))).bind fun bt252 => (if bt237.2.1 = 0 then (if bt242.2.1 = 0 then (if bt252.2.1 = 0 then (if (bt237.1.length : Int) = 2 then (if (bt242.1.length : Int) = 2 then (if (bt252.1.length : Int) = 2 then (if ((bt247.2.1 == 0) != (decide (a0 ≤ a1))) = true then (none) else (if bt247.2.1 = 0 then (scantlinglaw03_LexClass.j0 k a0 a1 bt237.1 bt242.1 bt247.1 bt247.2.1 bt252.1 false) else (scantlinglaw03_LexClass.j0 k a0 a1 bt237.1 bt242.1 bt247.1 bt247.2.1 bt252.1 (bt247.2.1 != 2)))) else (none)) else (none)) else (none)) else (none)) else (none)) else (none))) else (none)) else (none)) else (none)) else (none))) else (none)) else (none))) else (none)) else (none))) else (none)) else (none))) else (none)) else (none)) else (none)) else (none)) = some r := by first | (rw [hy231]; with_reducible exact H) | (have H2_ := (Option.bind_some _ _).symm.trans H; rw [hy231]; with_reducible exact H2_) | (have H2_ := (Option.bind_some _ _).symm.trans H; with_reducible exact H2_) | with_reducible exact H | (rw [hy231]; exact H) | exact H
  have Ny231 := Aside0.mk hy231
  have hz231 : (strOfNums y231).size = 2 := by rw [strOfNums_size, Ny231.out]; rfl
  clear hy231
  obtain ⟨ji13, hji13⟩ : ∃ j_ : Int, ((Int.tdiv a1 16) % 256) = j_ := ⟨_, rfl⟩
  have hu13 : IntKind.u8.wrap (Int.tdiv a1 16) = ji13 := by rw [← hji13]; simp [IntKind.wrap, IntKind.bits, IntKind.signed]
  replace H : (if 0 ≤ (ji13) then (if (ji13) < 16 then (if 0 ≤ (Int.tmod a1 16) then (if (Int.tmod a1 16) < 16 then ((some (([bt (⟨#[48, 49, 50, 51, 52, 53, 54, 55, 56, 57, 97, 98, 99, 100, 101, 102]⟩ : ByteArray) (ji13), bt (⟨#[48, 49, 50, 51, 52, 53, 54, 55, 56, 57, 97, 98, 99, 100, 101, 102]⟩ : ByteArray) (Int.tmod a1 16)] : List Int) : List Int)).bind fun y234 => (if 1 + (strOfNums y231).size ≤ 9223372036854775807 then (if ((⟨#[60]⟩ : ByteArray) ++ (strOfNums y231)).size + 1 ≤ 9223372036854775807 then ((lex_Read.f k (((⟨#[60]⟩ : ByteArray) ++ (strOfNums y231)) ++ (⟨#[62]⟩ : ByteArray))).bind fun bt237 => (if 2 + (strOfNums y231).size ≤ 9223372036854775807 then (if ((⟨#[60, 94]⟩ : ByteArray) ++ (strOfNums y231)).size + 1 ≤ 9223372036854775807 then ((lex_Read.f k (((⟨#[60, 94]⟩ : ByteArray) ++ (strOfNums y231)) ++ (⟨#[62]⟩ : ByteArray))).bind fun bt242 => (if (((⟨#[60]⟩ : ByteArray) ++ (strOfNums y231)) ++ (⟨#[45]⟩ : ByteArray)).size + (strOfNums y234).size ≤ 9223372036854775807 then (if ((((⟨#[60]⟩ : ByteArray) ++ (strOfNums y231)) ++ (⟨#[45]⟩ : ByteArray)) ++ (strOfNums y234)).size + 1 ≤ 9223372036854775807 then ((lex_Read.f k (((((⟨#[60]⟩ : ByteArray) ++ (strOfNums y231)) ++ (⟨#[45]⟩ : ByteArray)) ++ (strOfNums y234)) ++ (⟨#[62]⟩ : ByteArray))).bind fun bt247 => (if (((⟨#[60]⟩ : ByteArray) ++ (strOfNums y231)) ++ (⟨#[44]⟩ : ByteArray)).size + (strOfNums y234).size ≤ 9223372036854775807 then (if ((((⟨#[60]⟩ : ByteArray) ++ (strOfNums y231)) ++ (⟨#[44]⟩ : ByteArray)) ++ (strOfNums y234)).size + 1 ≤ 9223372036854775807 then (if (((((⟨#[60]⟩ : ByteArray) ++ (strOfNums y231)) ++ (⟨#[44]⟩ : ByteArray)) ++ (strOfNums y234)) ++ (⟨#[44]⟩ : ByteArray)).size + (strOfNums y231).size ≤ 9223372036854775807 then (if ((((((⟨#[60]⟩ : ByteArray) ++ (strOfNums y231)) ++ (⟨#[44]⟩ : ByteArray)) ++ (strOfNums y234)) ++ (⟨#[44]⟩ : ByteArray)) ++ (strOfNums y231)).size + 1 ≤ 9223372036854775807 then ((lex_Read.f k (((((((⟨#[60]⟩ : ByteArray) ++ (strOfNums y231)) ++ (⟨#[44]⟩ : ByteArray)) ++ (strOfNums y234)) ++ (⟨#[44]⟩ : ByteArray)) ++ (strOfNums y231)) ++ (⟨#[62]⟩ : ByteArray))).bind fun bt252 => (if bt237.2.1 = 0 then (if bt242.2.1 = 0 then (if bt252.2.1 = 0 then (if (bt237.1.length : Int) = 2 then (if (bt242.1.length : Int) = 2 then (if (bt252.1.length : Int) = 2 then (if ((bt247.2.1 == 0) != (decide (a0 ≤ a1))) = true then (none) else (if bt247.2.1 = 0 then (scantlinglaw03_LexClass.j0 k a0 a1 bt237.1 bt242.1 bt247.1 bt247.2.1 bt252.1 false) else (scantlinglaw03_LexClass.j0 k a0 a1 bt237.1 bt242.1 bt247.1 bt247.2.1 bt252.1 (bt247.2.1 != 2)))) else (none)) else (none)) else (none)) else (none)) else (none)) else (none))) else (none)) else (none)) else (none)) else (none))) else (none)) else (none))) else (none)) else (none))) else (none)) else (none))) else (none)) else (none)) else (none)) else (none)) = some r := by first | (rw [hji13] at H; exact H) | (simp only [hji13] at H ⊢; exact H)
  (try rw [hji13] at A3)
  by_cases c14 : 0 ≤ (ji13)
  case neg => rw [if_neg c14] at H; exact absurd H (by simp)
  rw [if_pos c14] at H
  have c14b0 : decide (0 ≤ (ji13)) = true := decide_eq_true c14
  clear c14
  by_cases c15 : (ji13) < 16
  case neg => rw [if_neg c15] at H; exact absurd H (by simp)
  rw [if_pos c15] at H
  have c15b0 : decide ((ji13) < 16) = true := decide_eq_true c15
  clear c15
  obtain ⟨ji17, hji17⟩ : ∃ j_ : Int, (Int.tmod a1 16) = j_ := ⟨_, rfl⟩
  replace H : (if 0 ≤ (ji17) then (if (ji17) < 16 then ((some (([bt (⟨#[48, 49, 50, 51, 52, 53, 54, 55, 56, 57, 97, 98, 99, 100, 101, 102]⟩ : ByteArray) (ji13), bt (⟨#[48, 49, 50, 51, 52, 53, 54, 55, 56, 57, 97, 98, 99, 100, 101, 102]⟩ : ByteArray) (ji17)] : List Int) : List Int)).bind fun y234 => (if 1 + (strOfNums y231).size ≤ 9223372036854775807 then (if ((⟨#[60]⟩ : ByteArray) ++ (strOfNums y231)).size + 1 ≤ 9223372036854775807 then ((lex_Read.f k (((⟨#[60]⟩ : ByteArray) ++ (strOfNums y231)) ++ (⟨#[62]⟩ : ByteArray))).bind fun bt237 => (if 2 + (strOfNums y231).size ≤ 9223372036854775807 then (if ((⟨#[60, 94]⟩ : ByteArray) ++ (strOfNums y231)).size + 1 ≤ 9223372036854775807 then ((lex_Read.f k (((⟨#[60, 94]⟩ : ByteArray) ++ (strOfNums y231)) ++ (⟨#[62]⟩ : ByteArray))).bind fun bt242 => (if (((⟨#[60]⟩ : ByteArray) ++ (strOfNums y231)) ++ (⟨#[45]⟩ : ByteArray)).size + (strOfNums y234).size ≤ 9223372036854775807 then (if ((((⟨#[60]⟩ : ByteArray) ++ (strOfNums y231)) ++ (⟨#[45]⟩ : ByteArray)) ++ (strOfNums y234)).size + 1 ≤ 9223372036854775807 then ((lex_Read.f k (((((⟨#[60]⟩ : ByteArray) ++ (strOfNums y231)) ++ (⟨#[45]⟩ : ByteArray)) ++ (strOfNums y234)) ++ (⟨#[62]⟩ : ByteArray))).bind fun bt247 => (if (((⟨#[60]⟩ : ByteArray) ++ (strOfNums y231)) ++ (⟨#[44]⟩ : ByteArray)).size + (strOfNums y234).size ≤ 9223372036854775807 then (if ((((⟨#[60]⟩ : ByteArray) ++ (strOfNums y231)) ++ (⟨#[44]⟩ : ByteArray)) ++ (strOfNums y234)).size + 1 ≤ 9223372036854775807 then (if (((((⟨#[60]⟩ : ByteArray) ++ (strOfNums y231)) ++ (⟨#[44]⟩ : ByteArray)) ++ (strOfNums y234)) ++ (⟨#[44]⟩ : ByteArray)).size + (strOfNums y231).size ≤ 9223372036854775807 then (if ((((((⟨#[60]⟩ : ByteArray) ++ (strOfNums y231)) ++ (⟨#[44]⟩ : ByteArray)) ++ (strOfNums y234)) ++ (⟨#[44]⟩ : ByteArray)) ++ (strOfNums y231)).size + 1 ≤ 9223372036854775807 then ((lex_Read.f k (((((((⟨#[60]⟩ : ByteArray) ++ (strOfNums y231)) ++ (⟨#[44]⟩ : ByteArray)) ++ (strOfNums y234)) ++ (⟨#[44]⟩ : ByteArray)) ++ (strOfNums y231)) ++ (⟨#[62]⟩ : ByteArray))).bind fun bt252 => (if bt237.2.1 = 0 then (if bt242.2.1 = 0 then (if bt252.2.1 = 0 then (if (bt237.1.length : Int) = 2 then (if (bt242.1.length : Int) = 2 then (if (bt252.1.length : Int) = 2 then (if ((bt247.2.1 == 0) != (decide (a0 ≤ a1))) = true then (none) else (if bt247.2.1 = 0 then (scantlinglaw03_LexClass.j0 k a0 a1 bt237.1 bt242.1 bt247.1 bt247.2.1 bt252.1 false) else (scantlinglaw03_LexClass.j0 k a0 a1 bt237.1 bt242.1 bt247.1 bt247.2.1 bt252.1 (bt247.2.1 != 2)))) else (none)) else (none)) else (none)) else (none)) else (none)) else (none))) else (none)) else (none)) else (none)) else (none))) else (none)) else (none))) else (none)) else (none))) else (none)) else (none))) else (none)) else (none)) = some r := by first | (rw [hji17] at H; exact H) | (simp only [hji17] at H ⊢; exact H)
  (try rw [hji17] at A3)
  by_cases c18 : 0 ≤ (ji17)
  case neg => rw [if_neg c18] at H; exact absurd H (by simp)
  rw [if_pos c18] at H
  have c18b0 : decide (0 ≤ (ji17)) = true := decide_eq_true c18
  clear c18
  by_cases c19 : (ji17) < 16
  case neg => rw [if_neg c19] at H; exact absurd H (by simp)
  rw [if_pos c19] at H
  have c19b0 : decide ((ji17) < 16) = true := decide_eq_true c19
  clear c19
  obtain ⟨y234, hy234⟩ : ∃ y_ : List Int, y_ = (([bt (⟨#[48, 49, 50, 51, 52, 53, 54, 55, 56, 57, 97, 98, 99, 100, 101, 102]⟩ : ByteArray) (ji13), bt (⟨#[48, 49, 50, 51, 52, 53, 54, 55, 56, 57, 97, 98, 99, 100, 101, 102]⟩ : ByteArray) (ji17)] : List Int)) := ⟨_, rfl⟩
  replace H : (if 1 + (strOfNums y231).size ≤ 9223372036854775807 then (if ((⟨#[60]⟩ : ByteArray) ++ (strOfNums y231)).size + 1 ≤ 9223372036854775807 then ((lex_Read.f k (((⟨#[60]⟩ : ByteArray) ++ (strOfNums y231)) ++ (⟨#[62]⟩ : ByteArray))).bind fun bt237 => (if 2 + (strOfNums y231).size ≤ 9223372036854775807 then (if ((⟨#[60, 94]⟩ : ByteArray) ++ (strOfNums y231)).size + 1 ≤ 9223372036854775807 then ((lex_Read.f k (((⟨#[60, 94]⟩ : ByteArray) ++ (strOfNums y231)) ++ (⟨#[62]⟩ : ByteArray))).bind fun bt242 => (if (((⟨#[60]⟩ : ByteArray) ++ (strOfNums y231)) ++ (⟨#[45]⟩ : ByteArray)).size + (strOfNums y234).size ≤ 9223372036854775807 then (if ((((⟨#[60]⟩ : ByteArray) ++ (strOfNums y231)) ++ (⟨#[45]⟩ : ByteArray)) ++ (strOfNums y234)).size + 1 ≤ 9223372036854775807 then ((lex_Read.f k (((((⟨#[60]⟩ : ByteArray) ++ (strOfNums y231)) ++ (⟨#[45]⟩ : ByteArray)) ++ (strOfNums y234)) ++ (⟨#[62]⟩ : ByteArray))).bind fun bt247 => (if (((⟨#[60]⟩ : ByteArray) ++ (strOfNums y231)) ++ (⟨#[44]⟩ : ByteArray)).size + (strOfNums y234).size ≤ 9223372036854775807 then (if ((((⟨#[60]⟩ : ByteArray) ++ (strOfNums y231)) ++ (⟨#[44]⟩ : ByteArray)) ++ (strOfNums y234)).size + 1 ≤ 9223372036854775807 then (if (((((⟨#[60]⟩ : ByteArray) ++ (strOfNums y231)) ++ (⟨#[44]⟩ : ByteArray)) ++ (strOfNums y234)) ++ (⟨#[44]⟩ : ByteArray)).size + (strOfNums y231).size ≤ 9223372036854775807 then (if ((((((⟨#[60]⟩ : ByteArray) ++ (strOfNums y231)) ++ (⟨#[44]⟩ : ByteArray)) ++ (strOfNums y234)) ++ (⟨#[44]⟩ : ByteArray)) ++ (strOfNums y231)).size + 1 ≤ 9223372036854775807 then ((lex_Read.f k (((((((⟨#[60]⟩ : ByteArray) ++ (strOfNums y231)) ++ (⟨#[44]⟩ : ByteArray)) ++ (strOfNums y234)) ++ (⟨#[44]⟩ : ByteArray)) ++ (strOfNums y231)) ++ (⟨#[62]⟩ : ByteArray))).bind fun bt252 => (if bt237.2.1 = 0 then (if bt242.2.1 = 0 then (if bt252.2.1 = 0 then (if (bt237.1.length : Int) = 2 then (if (bt242.1.length : Int) = 2 then (if (bt252.1.length : Int) = 2 then (if ((bt247.2.1 == 0) != (decide (a0 ≤ a1))) = true then (none) else (if bt247.2.1 = 0 then (scantlinglaw03_LexClass.j0 k a0 a1 bt237.1 bt242.1 bt247.1 bt247.2.1 bt252.1 false) else (scantlinglaw03_LexClass.j0 k a0 a1 bt237.1 bt242.1 bt247.1 bt247.2.1 bt252.1 (bt247.2.1 != 2)))) else (none)) else (none)) else (none)) else (none)) else (none)) else (none))) else (none)) else (none)) else (none)) else (none))) else (none)) else (none))) else (none)) else (none))) else (none)) else (none)) = some r := by first | (rw [hy234]; with_reducible exact H) | (have H2_ := (Option.bind_some _ _).symm.trans H; rw [hy234]; with_reducible exact H2_) | (have H2_ := (Option.bind_some _ _).symm.trans H; with_reducible exact H2_) | with_reducible exact H | (rw [hy234]; exact H) | exact H
  have Ny234 := Aside0.mk hy234
  have hz234 : (strOfNums y234).size = 2 := by rw [strOfNums_size, Ny234.out]; rfl
  clear hy234
  by_cases c21 : 1 + (strOfNums y231).size ≤ 9223372036854775807
  case neg => rw [if_neg c21] at H; exact absurd H (by simp)
  rw [if_pos c21] at H
  have c21b0 := eq_true c21
  have c21b1 : decide (1 + (strOfNums y231).size ≤ 9223372036854775807) = true := decide_eq_true c21
  try have c21b2 : (9223372036854775807 < 1 + (strOfNums y231).size) = False := eq_false (Nat.not_lt.2 c21)
  by_cases c22 : ((⟨#[60]⟩ : ByteArray) ++ (strOfNums y231)).size + 1 ≤ 9223372036854775807
  case neg => rw [if_neg c22] at H; exact absurd H (by simp)
  rw [if_pos c22] at H
  have c22b0 := eq_true c22
  have c22b1 : decide (((⟨#[60]⟩ : ByteArray) ++ (strOfNums y231)).size + 1 ≤ 9223372036854775807) = true := decide_eq_true c22
  try have c22b2 : (9223372036854775807 < ((⟨#[60]⟩ : ByteArray) ++ (strOfNums y231)).size + 1) = False := eq_false (Nat.not_lt.2 c22)
  replace H := Option.bind_eq_some_iff.mp H
  obtain ⟨⟨t237, t238, t239⟩, A230, H⟩ := H
  replace H : (if 2 + (strOfNums y231).size ≤ 9223372036854775807 then (if ((⟨#[60, 94]⟩ : ByteArray) ++ (strOfNums y231)).size + 1 ≤ 9223372036854775807 then ((lex_Read.f k (((⟨#[60, 94]⟩ : ByteArray) ++ (strOfNums y231)) ++ (⟨#[62]⟩ : ByteArray))).bind fun bt242 => (if (((⟨#[60]⟩ : ByteArray) ++ (strOfNums y231)) ++ (⟨#[45]⟩ : ByteArray)).size + (strOfNums y234).size ≤ 9223372036854775807 then (if ((((⟨#[60]⟩ : ByteArray) ++ (strOfNums y231)) ++ (⟨#[45]⟩ : ByteArray)) ++ (strOfNums y234)).size + 1 ≤ 9223372036854775807 then ((lex_Read.f k (((((⟨#[60]⟩ : ByteArray) ++ (strOfNums y231)) ++ (⟨#[45]⟩ : ByteArray)) ++ (strOfNums y234)) ++ (⟨#[62]⟩ : ByteArray))).bind fun bt247 => (if (((⟨#[60]⟩ : ByteArray) ++ (strOfNums y231)) ++ (⟨#[44]⟩ : ByteArray)).size + (strOfNums y234).size ≤ 9223372036854775807 then (if ((((⟨#[60]⟩ : ByteArray) ++ (strOfNums y231)) ++ (⟨#[44]⟩ : ByteArray)) ++ (strOfNums y234)).size + 1 ≤ 9223372036854775807 then (if (((((⟨#[60]⟩ : ByteArray) ++ (strOfNums y231)) ++ (⟨#[44]⟩ : ByteArray)) ++ (strOfNums y234)) ++ (⟨#[44]⟩ : ByteArray)).size + (strOfNums y231).size ≤ 9223372036854775807 then (if ((((((⟨#[60]⟩ : ByteArray) ++ (strOfNums y231)) ++ (⟨#[44]⟩ : ByteArray)) ++ (strOfNums y234)) ++ (⟨#[44]⟩ : ByteArray)) ++ (strOfNums y231)).size + 1 ≤ 9223372036854775807 then ((lex_Read.f k (((((((⟨#[60]⟩ : ByteArray) ++ (strOfNums y231)) ++ (⟨#[44]⟩ : ByteArray)) ++ (strOfNums y234)) ++ (⟨#[44]⟩ : ByteArray)) ++ (strOfNums y231)) ++ (⟨#[62]⟩ : ByteArray))).bind fun bt252 => (if t238 = 0 then (if bt242.2.1 = 0 then (if bt252.2.1 = 0 then (if (t237.length : Int) = 2 then (if (bt242.1.length : Int) = 2 then (if (bt252.1.length : Int) = 2 then (if ((bt247.2.1 == 0) != (decide (a0 ≤ a1))) = true then (none) else (if bt247.2.1 = 0 then (scantlinglaw03_LexClass.j0 k a0 a1 t237 bt242.1 bt247.1 bt247.2.1 bt252.1 false) else (scantlinglaw03_LexClass.j0 k a0 a1 t237 bt242.1 bt247.1 bt247.2.1 bt252.1 (bt247.2.1 != 2)))) else (none)) else (none)) else (none)) else (none)) else (none)) else (none))) else (none)) else (none)) else (none)) else (none))) else (none)) else (none))) else (none)) else (none)) = some r := H
  have A23 := Aside0.mk A230
  clear A230
  by_cases c24 : 2 + (strOfNums y231).size ≤ 9223372036854775807
  case neg => rw [if_neg c24] at H; exact absurd H (by simp)
  rw [if_pos c24] at H
  have c24b0 := eq_true c24
  have c24b1 : decide (2 + (strOfNums y231).size ≤ 9223372036854775807) = true := decide_eq_true c24
  try have c24b2 : (9223372036854775807 < 2 + (strOfNums y231).size) = False := eq_false (Nat.not_lt.2 c24)
  by_cases c25 : ((⟨#[60, 94]⟩ : ByteArray) ++ (strOfNums y231)).size + 1 ≤ 9223372036854775807
  case neg => rw [if_neg c25] at H; exact absurd H (by simp)
  rw [if_pos c25] at H
  have c25b0 := eq_true c25
  have c25b1 : decide (((⟨#[60, 94]⟩ : ByteArray) ++ (strOfNums y231)).size + 1 ≤ 9223372036854775807) = true := decide_eq_true c25
  try have c25b2 : (9223372036854775807 < ((⟨#[60, 94]⟩ : ByteArray) ++ (strOfNums y231)).size + 1) = False := eq_false (Nat.not_lt.2 c25)
  replace H := Option.bind_eq_some_iff.mp H
  obtain ⟨⟨t242, t243, t244⟩, A260, H⟩ := H
  replace H : (if (((⟨#[60]⟩ : ByteArray) ++ (strOfNums y231)) ++ (⟨#[45]⟩ : ByteArray)).size + (strOfNums y234).size ≤ 9223372036854775807 then (if ((((⟨#[60]⟩ : ByteArray) ++ (strOfNums y231)) ++ (⟨#[45]⟩ : ByteArray)) ++ (strOfNums y234)).size + 1 ≤ 9223372036854775807 then ((lex_Read.f k (((((⟨#[60]⟩ : ByteArray) ++ (strOfNums y231)) ++ (⟨#[45]⟩ : ByteArray)) ++ (strOfNums y234)) ++ (⟨#[62]⟩ : ByteArray))).bind fun bt247 => (if (((⟨#[60]⟩ : ByteArray) ++ (strOfNums y231)) ++ (⟨#[44]⟩ : ByteArray)).size + (strOfNums y234).size ≤ 9223372036854775807 then (if ((((⟨#[60]⟩ : ByteArray) ++ (strOfNums y231)) ++ (⟨#[44]⟩ : ByteArray)) ++ (strOfNums y234)).size + 1 ≤ 9223372036854775807 then (if (((((⟨#[60]⟩ : ByteArray) ++ (strOfNums y231)) ++ (⟨#[44]⟩ : ByteArray)) ++ (strOfNums y234)) ++ (⟨#[44]⟩ : ByteArray)).size + (strOfNums y231).size ≤ 9223372036854775807 then (if ((((((⟨#[60]⟩ : ByteArray) ++ (strOfNums y231)) ++ (⟨#[44]⟩ : ByteArray)) ++ (strOfNums y234)) ++ (⟨#[44]⟩ : ByteArray)) ++ (strOfNums y231)).size + 1 ≤ 9223372036854775807 then ((lex_Read.f k (((((((⟨#[60]⟩ : ByteArray) ++ (strOfNums y231)) ++ (⟨#[44]⟩ : ByteArray)) ++ (strOfNums y234)) ++ (⟨#[44]⟩ : ByteArray)) ++ (strOfNums y231)) ++ (⟨#[62]⟩ : ByteArray))).bind fun bt252 => (if t238 = 0 then (if t243 = 0 then (if bt252.2.1 = 0 then (if (t237.length : Int) = 2 then (if (t242.length : Int) = 2 then (if (bt252.1.length : Int) = 2 then (if ((bt247.2.1 == 0) != (decide (a0 ≤ a1))) = true then (none) else (if bt247.2.1 = 0 then (scantlinglaw03_LexClass.j0 k a0 a1 t237 t242 bt247.1 bt247.2.1 bt252.1 false) else (scantlinglaw03_LexClass.j0 k a0 a1 t237 t242 bt247.1 bt247.2.1 bt252.1 (bt247.2.1 != 2)))) else (none)) else (none)) else (none)) else (none)) else (none)) else (none))) else (none)) else (none)) else (none)) else (none))) else (none)) else (none)) = some r := H
  have A26 := Aside0.mk A260
  clear A260
  by_cases c27 : (((⟨#[60]⟩ : ByteArray) ++ (strOfNums y231)) ++ (⟨#[45]⟩ : ByteArray)).size + (strOfNums y234).size ≤ 9223372036854775807
  case neg => rw [if_neg c27] at H; exact absurd H (by simp)
  rw [if_pos c27] at H
  have c27b0 := eq_true c27
  have c27b1 : decide ((((⟨#[60]⟩ : ByteArray) ++ (strOfNums y231)) ++ (⟨#[45]⟩ : ByteArray)).size + (strOfNums y234).size ≤ 9223372036854775807) = true := decide_eq_true c27
  try have c27b2 : (9223372036854775807 < (((⟨#[60]⟩ : ByteArray) ++ (strOfNums y231)) ++ (⟨#[45]⟩ : ByteArray)).size + (strOfNums y234).size) = False := eq_false (Nat.not_lt.2 c27)
  by_cases c28 : ((((⟨#[60]⟩ : ByteArray) ++ (strOfNums y231)) ++ (⟨#[45]⟩ : ByteArray)) ++ (strOfNums y234)).size + 1 ≤ 9223372036854775807
  case neg => rw [if_neg c28] at H; exact absurd H (by simp)
  rw [if_pos c28] at H
  have c28b0 := eq_true c28
  have c28b1 : decide (((((⟨#[60]⟩ : ByteArray) ++ (strOfNums y231)) ++ (⟨#[45]⟩ : ByteArray)) ++ (strOfNums y234)).size + 1 ≤ 9223372036854775807) = true := decide_eq_true c28
  try have c28b2 : (9223372036854775807 < ((((⟨#[60]⟩ : ByteArray) ++ (strOfNums y231)) ++ (⟨#[45]⟩ : ByteArray)) ++ (strOfNums y234)).size + 1) = False := eq_false (Nat.not_lt.2 c28)
  replace H := Option.bind_eq_some_iff.mp H
  obtain ⟨⟨t247, t248, t249⟩, A290, H⟩ := H
  replace H : (if (((⟨#[60]⟩ : ByteArray) ++ (strOfNums y231)) ++ (⟨#[44]⟩ : ByteArray)).size + (strOfNums y234).size ≤ 9223372036854775807 then (if ((((⟨#[60]⟩ : ByteArray) ++ (strOfNums y231)) ++ (⟨#[44]⟩ : ByteArray)) ++ (strOfNums y234)).size + 1 ≤ 9223372036854775807 then (if (((((⟨#[60]⟩ : ByteArray) ++ (strOfNums y231)) ++ (⟨#[44]⟩ : ByteArray)) ++ (strOfNums y234)) ++ (⟨#[44]⟩ : ByteArray)).size + (strOfNums y231).size ≤ 9223372036854775807 then (if ((((((⟨#[60]⟩ : ByteArray) ++ (strOfNums y231)) ++ (⟨#[44]⟩ : ByteArray)) ++ (strOfNums y234)) ++ (⟨#[44]⟩ : ByteArray)) ++ (strOfNums y231)).size + 1 ≤ 9223372036854775807 then ((lex_Read.f k (((((((⟨#[60]⟩ : ByteArray) ++ (strOfNums y231)) ++ (⟨#[44]⟩ : ByteArray)) ++ (strOfNums y234)) ++ (⟨#[44]⟩ : ByteArray)) ++ (strOfNums y231)) ++ (⟨#[62]⟩ : ByteArray))).bind fun bt252 => (if t238 = 0 then (if t243 = 0 then (if bt252.2.1 = 0 then (if (t237.length : Int) = 2 then (if (t242.length : Int) = 2 then (if (bt252.1.length : Int) = 2 then (if ((t248 == 0) != (decide (a0 ≤ a1))) = true then (none) else (if t248 = 0 then (scantlinglaw03_LexClass.j0 k a0 a1 t237 t242 t247 t248 bt252.1 false) else (scantlinglaw03_LexClass.j0 k a0 a1 t237 t242 t247 t248 bt252.1 (t248 != 2)))) else (none)) else (none)) else (none)) else (none)) else (none)) else (none))) else (none)) else (none)) else (none)) else (none)) = some r := H
  have A29 := Aside0.mk A290
  clear A290
  by_cases c30 : (((⟨#[60]⟩ : ByteArray) ++ (strOfNums y231)) ++ (⟨#[44]⟩ : ByteArray)).size + (strOfNums y234).size ≤ 9223372036854775807
  case neg => rw [if_neg c30] at H; exact absurd H (by simp)
  rw [if_pos c30] at H
  have c30b0 := eq_true c30
  have c30b1 : decide ((((⟨#[60]⟩ : ByteArray) ++ (strOfNums y231)) ++ (⟨#[44]⟩ : ByteArray)).size + (strOfNums y234).size ≤ 9223372036854775807) = true := decide_eq_true c30
  try have c30b2 : (9223372036854775807 < (((⟨#[60]⟩ : ByteArray) ++ (strOfNums y231)) ++ (⟨#[44]⟩ : ByteArray)).size + (strOfNums y234).size) = False := eq_false (Nat.not_lt.2 c30)
  by_cases c31 : ((((⟨#[60]⟩ : ByteArray) ++ (strOfNums y231)) ++ (⟨#[44]⟩ : ByteArray)) ++ (strOfNums y234)).size + 1 ≤ 9223372036854775807
  case neg => rw [if_neg c31] at H; exact absurd H (by simp)
  rw [if_pos c31] at H
  have c31b0 := eq_true c31
  have c31b1 : decide (((((⟨#[60]⟩ : ByteArray) ++ (strOfNums y231)) ++ (⟨#[44]⟩ : ByteArray)) ++ (strOfNums y234)).size + 1 ≤ 9223372036854775807) = true := decide_eq_true c31
  try have c31b2 : (9223372036854775807 < ((((⟨#[60]⟩ : ByteArray) ++ (strOfNums y231)) ++ (⟨#[44]⟩ : ByteArray)) ++ (strOfNums y234)).size + 1) = False := eq_false (Nat.not_lt.2 c31)
  by_cases c32 : (((((⟨#[60]⟩ : ByteArray) ++ (strOfNums y231)) ++ (⟨#[44]⟩ : ByteArray)) ++ (strOfNums y234)) ++ (⟨#[44]⟩ : ByteArray)).size + (strOfNums y231).size ≤ 9223372036854775807
  case neg => rw [if_neg c32] at H; exact absurd H (by simp)
  rw [if_pos c32] at H
  have c32b0 := eq_true c32
  have c32b1 : decide ((((((⟨#[60]⟩ : ByteArray) ++ (strOfNums y231)) ++ (⟨#[44]⟩ : ByteArray)) ++ (strOfNums y234)) ++ (⟨#[44]⟩ : ByteArray)).size + (strOfNums y231).size ≤ 9223372036854775807) = true := decide_eq_true c32
  try have c32b2 : (9223372036854775807 < (((((⟨#[60]⟩ : ByteArray) ++ (strOfNums y231)) ++ (⟨#[44]⟩ : ByteArray)) ++ (strOfNums y234)) ++ (⟨#[44]⟩ : ByteArray)).size + (strOfNums y231).size) = False := eq_false (Nat.not_lt.2 c32)
  by_cases c33 : ((((((⟨#[60]⟩ : ByteArray) ++ (strOfNums y231)) ++ (⟨#[44]⟩ : ByteArray)) ++ (strOfNums y234)) ++ (⟨#[44]⟩ : ByteArray)) ++ (strOfNums y231)).size + 1 ≤ 9223372036854775807
  case neg => rw [if_neg c33] at H; exact absurd H (by simp)
  rw [if_pos c33] at H
  have c33b0 := eq_true c33
  have c33b1 : decide (((((((⟨#[60]⟩ : ByteArray) ++ (strOfNums y231)) ++ (⟨#[44]⟩ : ByteArray)) ++ (strOfNums y234)) ++ (⟨#[44]⟩ : ByteArray)) ++ (strOfNums y231)).size + 1 ≤ 9223372036854775807) = true := decide_eq_true c33
  try have c33b2 : (9223372036854775807 < ((((((⟨#[60]⟩ : ByteArray) ++ (strOfNums y231)) ++ (⟨#[44]⟩ : ByteArray)) ++ (strOfNums y234)) ++ (⟨#[44]⟩ : ByteArray)) ++ (strOfNums y231)).size + 1) = False := eq_false (Nat.not_lt.2 c33)
  replace H := Option.bind_eq_some_iff.mp H
  obtain ⟨⟨t252, t253, t254⟩, A340, H⟩ := H
  replace H : (if t238 = 0 then (if t243 = 0 then (if t253 = 0 then (if (t237.length : Int) = 2 then (if (t242.length : Int) = 2 then (if (t252.length : Int) = 2 then (if ((t248 == 0) != (decide (a0 ≤ a1))) = true then (none) else (if t248 = 0 then (scantlinglaw03_LexClass.j0 k a0 a1 t237 t242 t247 t248 t252 false) else (scantlinglaw03_LexClass.j0 k a0 a1 t237 t242 t247 t248 t252 (t248 != 2)))) else (none)) else (none)) else (none)) else (none)) else (none)) else (none)) = some r := H
  have A34 := Aside0.mk A340
  clear A340
  have HC35 := Aside0.mk H
  clear H
  go_enter Tryd.func6, Tryd.ntmps6
  try go_wp2_with (first | ((with_reducible refine gate_callee (f := 10) rfl ?_); refine goesL_ (some 20) rfl rfl Tryd.func10 (by kernel_rfl) rfl #[] rfl (by (try simp only [List.map_toArray, List.map_cons, List.map_nil]); first | done | rfl | (simp only [List.length_drop, List.length_take]; rfl)) ?_; (with_reducible refine (scantlinglaw03_awake.calls  true _ ?side1 A3.out).mono ?_); (case side1 => exact (by repeat (first | exact hL_ | apply LaidW.drewN | apply LaidW.drew | refine LaidW.below hL_ (belx HB)))); rintro e w36 ⟨rfl, hb⟩; refine ⟨_, rfl, ?_⟩; have n0_ := Aside0.mk (below_step (belx HB) hb); clear HB; have HB := n0_; clear n0_; (try clear hb); (try clear hb2); (try clear hk); (try clear hi)))
  have n0_ := Aside0.mk (below_drew1 HB.out)
  clear HB
  have HB := n0_
  clear n0_
  have p8 : 0 ≤ ((ji5) : Int) := odt
  have q8 : (ji5) < (16 : Int) := odt
  have hx8 := bt_at (⟨#[48, 49, 50, 51, 52, 53, 54, 55, 56, 57, 97, 98, 99, 100, 101, 102]⟩ : ByteArray) (ji5)
  replace p8 := eq_true p8
  replace q8 := eq_true q8
  have p12 : 0 ≤ ((ji9) : Int) := odt
  have q12 : (ji9) < (16 : Int) := odt
  have hx12 := bt_at (⟨#[48, 49, 50, 51, 52, 53, 54, 55, 56, 57, 97, 98, 99, 100, 101, 102]⟩ : ByteArray) (ji9)
  replace p12 := eq_true p12
  replace q12 := eq_true q12
  refine start_ (n := 11) (S := fun w' => True) (ds := []) #[false, false, false, false, false, false, false, false, false, false, false] (by kernel_rfl) rfl rfl trivial (fun hHeld => ?_); refine with_tabW scantlinglaw03_LexClass.tab4 scantlinglaw03_LexClass.bits4 (fun HT_ HW_ => ?_)
  generalize w36.drew = w37 at HB hHeld ⊢
  refine pure_ (i := 0) (N := some 22) (v := ?_) (a' := ?_) #[true, false, false, false, false, false, false, false, false, false, false] rfl rfl (any_of HT_.out (by kernel_rfl)) (fun _ _ _ h => h) (Or.inl ⟨by rfl, ?_⟩) ?_ ?_
  rotate_left
  · intro w'
    go_simp
    with_reducible rfl
  rotate_left
  · simp only [Act.put, List.setIfInBounds_toArray, List.set_cons_zero, List.set_cons_succ, i64_w, i32_w]
    rfl
  refine pure_ (i := 1) (N := some 23) (v := ?_) (a' := ?_) #[true, true, false, false, false, false, false, false, false, false, false] rfl rfl (any_of HT_.out (by kernel_rfl)) (fun _ _ _ h => h) (Or.inl ⟨by rfl, ?_⟩) ?_ ?_
  rotate_left
  · intro w'
    go_simp
    with_reducible rfl
  rotate_left
  · simp only [Act.put, List.setIfInBounds_toArray, List.set_cons_zero, List.set_cons_succ, i64_w, i32_w]
    rfl
  refine pure_ (i := 2) (N := some 24) (v := ?_) (a' := ?_) #[true, true, true, false, false, false, false, false, false, false, false] rfl rfl (any_of HT_.out (by kernel_rfl)) (fun _ _ _ h => h) (Or.inl ⟨by rfl, ?_⟩) ?_ ?_
  rotate_left
  · intro w'
    go_simp
    with_reducible rfl
  rotate_left
  · simp only [Act.put, List.setIfInBounds_toArray, List.set_cons_zero, List.set_cons_succ, i64_w, i32_w]
    rfl
  refine pure_ (i := 4) (N := some 26) (v := ?_) (a' := ?_) #[true, true, true, false, true, false, false, false, false, false, false] rfl rfl (any_of HT_.out (by kernel_rfl)) (fun _ _ _ h => h) (Or.inl ⟨by rfl, ?_⟩) ?_ ?_
  rotate_left
  · intro w'
    go_simp
    with_reducible rfl
  rotate_left
  · simp only [Act.put, List.setIfInBounds_toArray, List.set_cons_zero, List.set_cons_succ, i64_w, i32_w]
    rfl
  refine pure_ (i := 5) (N := some 27) (v := ?_) (a' := ?_) #[true, true, true, false, true, true, false, false, false, false, false] rfl rfl (any_of HT_.out (by kernel_rfl)) (fun _ _ _ h => h) (Or.inl ⟨by rfl, ?_⟩) ?_ ?_
  rotate_left
  · intro w'
    go_simp
    with_reducible rfl
  rotate_left
  · simp only [Act.put, List.setIfInBounds_toArray, List.set_cons_zero, List.set_cons_succ, i64_w, i32_w]
    rfl
  refine pure_ (i := 6) (N := some 28) (v := ?_) (a' := ?_) #[true, true, true, false, true, true, true, false, false, false, false] rfl rfl (any_of HT_.out (by kernel_rfl)) (fun _ _ _ h => h) (Or.inl ⟨by rfl, ?_⟩) ?_ ?_
  rotate_left
  · intro w'
    go_simp
    with_reducible rfl
  rotate_left
  · simp only [Act.put, List.setIfInBounds_toArray, List.set_cons_zero, List.set_cons_succ, i64_w, i32_w]
    rfl
  refine take_ (i := 3) (N := some 25) (v := ?_) (a' := ?_) #[true, true, true, true, true, true, true, false, false, false, false] rfl rfl (take_ofW HT_.out HW_.out (by kernel_rfl)) (fun _ _ _ h => h) (Or.inl ⟨by rfl, ?_⟩) hHeld ?_ ?_
  rotate_left
  · intro w' _
    go_simp
    with_reducible rfl
  rotate_left
  · simp only [Act.put, List.setIfInBounds_toArray, List.set_cons_zero, List.set_cons_succ, i64_w, i32_w]
    rfl
  refine take_ (i := 7) (N := some 29) (v := ?_) (a' := ?_) #[true, true, true, true, true, true, true, true, false, false, false] rfl rfl (take_ofW HT_.out HW_.out (by kernel_rfl)) (fun _ _ _ h => h) (Or.inl ⟨by rfl, ?_⟩) hHeld ?_ ?_
  rotate_left
  · intro w' _
    go_simp
    with_reducible rfl
  rotate_left
  · simp only [Act.put, List.setIfInBounds_toArray, List.set_cons_zero, List.set_cons_succ, i64_w, i32_w]
    rfl
  refine one_ (i := 8) (N := some 30) #[true, true, true, true, true, true, true, true, true, false, false] rfl rfl (one_of HT_.out (by kernel_rfl)) (by decide) (fun K hK => ?_)
  refine Kd.R_lit_step (Kd.int .u8) _ 5 ?hg (N := 30) ?hd (xs := ([bt (⟨#[48, 49, 50, 51, 52, 53, 54, 55, 56, 57, 97, 98, 99, 100, 101, 102]⟩ : ByteArray) (ji5), bt (⟨#[48, 49, 50, 51, 52, 53, 54, 55, 56, 57, 97, 98, 99, 100, 101, 102]⟩ : ByteArray) (ji9)] : List Int)) (inner := [.int .u8 (bt (⟨#[48, 49, 50, 51, 52, 53, 54, 55, 56, 57, 97, 98, 99, 100, 101, 102]⟩ : ByteArray) (ji5)), .int .u8 (bt (⟨#[48, 49, 50, 51, 52, 53, 54, 55, 56, 57, 97, 98, 99, 100, 101, 102]⟩ : ByteArray) (ji9))]) (ok := fun _ => True) (okp := fun _ => True) ?hr ?hp (fun _ hk => hk) trivial (Below.refl _ _) (Nat.le_refl _) (by simp) ?_; (case hd => rfl); (case hg => rfl); (case hr => first | (go_simp; done) | (go_simp; rfl)); (case hp => exact (Reps.one (show Kd.M (Kd.int .u8) _ _ _ (bt (⟨#[48, 49, 50, 51, 52, 53, 54, 55, 56, 57, 97, 98, 99, 100, 101, 102]⟩ : ByteArray) (ji5)) [.int .u8 (bt (⟨#[48, 49, 50, 51, 52, 53, 54, 55, 56, 57, 97, 98, 99, 100, 101, 102]⟩ : ByteArray) (ji5))] from rfl) (Reps.one (show Kd.M (Kd.int .u8) _ _ _ (bt (⟨#[48, 49, 50, 51, 52, 53, 54, 55, 56, 57, 97, 98, 99, 100, 101, 102]⟩ : ByteArray) (ji9)) [.int .u8 (bt (⟨#[48, 49, 50, 51, 52, 53, 54, 55, 56, 57, 97, 98, 99, 100, 101, 102]⟩ : ByteArray) (ji9))] from rfl) (Reps.none _ _))))
  intro v232 w38 ho39 hb hg_ hnew_
  clear hg_ hnew_
  (first | rw [← Ny231.out] at ho39 | (simp only [Int.reduceToNat] at ho39; rw [← Ny231.out] at ho39))
  have n0_ := Aside0.mk (Kd.R_lower ho39 (below_size (belx HB)))
  have n1_ := Aside0.mk (below_step (belx HB) hb)
  clear HB
  have HO233 := n0_
  have HB := n1_
  clear n0_ n1_
  clear hb ho39
  refine hK.out _ _ trivial (fun hHeld => ?_)
  clear hK K
  refine norm_ (a' := ?_) ?_ ?_
  rotate_left
  · show Act.put _ (some 30) _ = _
    simp only [Act.put, List.setIfInBounds_toArray, List.set_cons_zero, List.set_cons_succ, i64_w, i32_w]
    rfl
  refine one_ (i := 9) (N := some 31) #[true, true, true, true, true, true, true, true, true, true, false] rfl rfl (one_of HT_.out (by kernel_rfl)) (by decide) (fun K hK => ?_)
  have hcv40 := own_string (P := Tryd.prog) Tryd.underlying37 Tryd.underlying5 Tryd.underlying9 (Kd.own_of_R HO233.out)
  refine value_ (w1 := ?_) (v := ?_) (by rfl) rfl ?_ ?_
  rotate_left 2
  · go_simp
    constructor
    · rfl
    · rfl
  clear hcv40
  refine hK.out _ _ trivial (fun hHeld => ?_)
  clear hK K
  refine norm_ (a' := ?_) ?_ ?_
  rotate_left
  · show Act.put _ (some 31) _ = _
    simp only [Act.put, List.setIfInBounds_toArray, List.set_cons_zero, List.set_cons_succ, i64_w, i32_w]
    rfl
  refine pure_ (i := 10) (N := some 6) (v := ?_) (a' := ?_) #[true, true, true, true, true, true, true, true, true, true, true] rfl rfl (any_of HT_.out (by kernel_rfl)) (fun _ _ _ h => h) (Or.inl ⟨by rfl, ?_⟩) ?_ ?_
  rotate_left
  · intro w'
    go_simp
    with_reducible rfl
  rotate_left
  · simp only [Act.put, List.setIfInBounds_toArray, List.set_cons_zero, List.set_cons_succ, i64_w, i32_w]
    rfl
  refine done_ (done_of HT_.out (by kernel_rfl)) ?_
  try go_wp2
  have n0_ := Aside0.mk (Kd.R_drew HO233.out)
  have n1_ := Aside0.mk (below_drew1 HB.out)
  clear HO233
  clear HB
  have HO233 := n0_
  have HB := n1_
  clear n0_ n1_
  have p16 : 0 ≤ ((ji13) : Int) := odt
  have q16 : (ji13) < (16 : Int) := odt
  have hx16 := bt_at (⟨#[48, 49, 50, 51, 52, 53, 54, 55, 56, 57, 97, 98, 99, 100, 101, 102]⟩ : ByteArray) (ji13)
  replace p16 := eq_true p16
  replace q16 := eq_true q16
  have p20 : 0 ≤ ((ji17) : Int) := odt
  have q20 : (ji17) < (16 : Int) := odt
  have hx20 := bt_at (⟨#[48, 49, 50, 51, 52, 53, 54, 55, 56, 57, 97, 98, 99, 100, 101, 102]⟩ : ByteArray) (ji17)
  replace p20 := eq_true p20
  replace q20 := eq_true q20
  refine start_ (n := 11) (S := fun w' => True) (ds := []) #[false, false, false, false, false, false, false, false, false, false, false] (by kernel_rfl) rfl rfl trivial (fun hHeld => ?_); refine with_tabW scantlinglaw03_LexClass.tab5 scantlinglaw03_LexClass.bits5 (fun HT_ HW_ => ?_)
  generalize w38.drew = w41 at HO233 HB hHeld ⊢
  refine pure_ (i := 0) (N := some 32) (v := ?_) (a' := ?_) #[true, false, false, false, false, false, false, false, false, false, false] rfl rfl (any_of HT_.out (by kernel_rfl)) (fun _ _ _ h => h) (Or.inl ⟨by rfl, ?_⟩) ?_ ?_
  rotate_left
  · intro w'
    go_simp
    with_reducible rfl
  rotate_left
  · simp only [Act.put, List.setIfInBounds_toArray, List.set_cons_zero, List.set_cons_succ, i64_w, i32_w]
    rfl
  refine pure_ (i := 1) (N := some 33) (v := ?_) (a' := ?_) #[true, true, false, false, false, false, false, false, false, false, false] rfl rfl (any_of HT_.out (by kernel_rfl)) (fun _ _ _ h => h) (Or.inl ⟨by rfl, ?_⟩) ?_ ?_
  rotate_left
  · intro w'
    go_simp
    with_reducible rfl
  rotate_left
  · simp only [Act.put, List.setIfInBounds_toArray, List.set_cons_zero, List.set_cons_succ, i64_w, i32_w]
    rfl
  refine pure_ (i := 2) (N := some 34) (v := ?_) (a' := ?_) #[true, true, true, false, false, false, false, false, false, false, false] rfl rfl (any_of HT_.out (by kernel_rfl)) (fun _ _ _ h => h) (Or.inl ⟨by rfl, ?_⟩) ?_ ?_
  rotate_left
  · intro w'
    go_simp
    with_reducible rfl
  rotate_left
  · simp only [Act.put, List.setIfInBounds_toArray, List.set_cons_zero, List.set_cons_succ, i64_w, i32_w]
    rfl
  refine pure_ (i := 4) (N := some 36) (v := ?_) (a' := ?_) #[true, true, true, false, true, false, false, false, false, false, false] rfl rfl (any_of HT_.out (by kernel_rfl)) (fun _ _ _ h => h) (Or.inl ⟨by rfl, ?_⟩) ?_ ?_
  rotate_left
  · intro w'
    go_simp
    with_reducible rfl
  rotate_left
  · simp only [Act.put, List.setIfInBounds_toArray, List.set_cons_zero, List.set_cons_succ, i64_w, i32_w]
    rfl
  refine pure_ (i := 5) (N := some 37) (v := ?_) (a' := ?_) #[true, true, true, false, true, true, false, false, false, false, false] rfl rfl (any_of HT_.out (by kernel_rfl)) (fun _ _ _ h => h) (Or.inl ⟨by rfl, ?_⟩) ?_ ?_
  rotate_left
  · intro w'
    go_simp
    with_reducible rfl
  rotate_left
  · simp only [Act.put, List.setIfInBounds_toArray, List.set_cons_zero, List.set_cons_succ, i64_w, i32_w]
    rfl
  refine pure_ (i := 6) (N := some 38) (v := ?_) (a' := ?_) #[true, true, true, false, true, true, true, false, false, false, false] rfl rfl (any_of HT_.out (by kernel_rfl)) (fun _ _ _ h => h) (Or.inl ⟨by rfl, ?_⟩) ?_ ?_
  rotate_left
  · intro w'
    go_simp
    with_reducible rfl
  rotate_left
  · simp only [Act.put, List.setIfInBounds_toArray, List.set_cons_zero, List.set_cons_succ, i64_w, i32_w]
    rfl
  refine take_ (i := 3) (N := some 35) (v := ?_) (a' := ?_) #[true, true, true, true, true, true, true, false, false, false, false] rfl rfl (take_ofW HT_.out HW_.out (by kernel_rfl)) (fun _ _ _ h => h) (Or.inl ⟨by rfl, ?_⟩) hHeld ?_ ?_
  rotate_left
  · intro w' _
    go_simp
    with_reducible rfl
  rotate_left
  · simp only [Act.put, List.setIfInBounds_toArray, List.set_cons_zero, List.set_cons_succ, i64_w, i32_w]
    rfl
  refine take_ (i := 7) (N := some 39) (v := ?_) (a' := ?_) #[true, true, true, true, true, true, true, true, false, false, false] rfl rfl (take_ofW HT_.out HW_.out (by kernel_rfl)) (fun _ _ _ h => h) (Or.inl ⟨by rfl, ?_⟩) hHeld ?_ ?_
  rotate_left
  · intro w' _
    go_simp
    with_reducible rfl
  rotate_left
  · simp only [Act.put, List.setIfInBounds_toArray, List.set_cons_zero, List.set_cons_succ, i64_w, i32_w]
    rfl
  refine one_ (i := 8) (N := some 40) #[true, true, true, true, true, true, true, true, true, false, false] rfl rfl (one_of HT_.out (by kernel_rfl)) (by decide) (fun K hK => ?_)
  refine Kd.R_lit_step (Kd.int .u8) _ 5 ?hg (N := 40) ?hd (xs := ([bt (⟨#[48, 49, 50, 51, 52, 53, 54, 55, 56, 57, 97, 98, 99, 100, 101, 102]⟩ : ByteArray) (ji13), bt (⟨#[48, 49, 50, 51, 52, 53, 54, 55, 56, 57, 97, 98, 99, 100, 101, 102]⟩ : ByteArray) (ji17)] : List Int)) (inner := [.int .u8 (bt (⟨#[48, 49, 50, 51, 52, 53, 54, 55, 56, 57, 97, 98, 99, 100, 101, 102]⟩ : ByteArray) (ji13)), .int .u8 (bt (⟨#[48, 49, 50, 51, 52, 53, 54, 55, 56, 57, 97, 98, 99, 100, 101, 102]⟩ : ByteArray) (ji17))]) (ok := fun _ => True) (okp := fun _ => True) ?hr ?hp (fun _ hk => hk) trivial (Below.refl _ _) (Nat.le_refl _) (by simp) ?_; (case hd => rfl); (case hg => rfl); (case hr => first | (go_simp; done) | (go_simp; rfl)); (case hp => exact (Reps.one (show Kd.M (Kd.int .u8) _ _ _ (bt (⟨#[48, 49, 50, 51, 52, 53, 54, 55, 56, 57, 97, 98, 99, 100, 101, 102]⟩ : ByteArray) (ji13)) [.int .u8 (bt (⟨#[48, 49, 50, 51, 52, 53, 54, 55, 56, 57, 97, 98, 99, 100, 101, 102]⟩ : ByteArray) (ji13))] from rfl) (Reps.one (show Kd.M (Kd.int .u8) _ _ _ (bt (⟨#[48, 49, 50, 51, 52, 53, 54, 55, 56, 57, 97, 98, 99, 100, 101, 102]⟩ : ByteArray) (ji17)) [.int .u8 (bt (⟨#[48, 49, 50, 51, 52, 53, 54, 55, 56, 57, 97, 98, 99, 100, 101, 102]⟩ : ByteArray) (ji17))] from rfl) (Reps.none _ _))))
  intro v235 w42 ho43 hb hg_ hnew_
  clear hg_ hnew_
  (first | rw [← Ny234.out] at ho43 | (simp only [Int.reduceToNat] at ho43; rw [← Ny234.out] at ho43))
  have n0_ := Aside0.mk (Kd.R_elder' (by (with_reducible repeat (first | apply Kd.R_alloc | apply Kd.R_drewN | apply Kd.R_drew)); exact HO233.out) (Kd.R_base ho43) hb)
  have n1_ := Aside0.mk (Kd.R_lower (Kd.R_new' ho43 (Kd.R_lt (by (with_reducible repeat (first | apply Kd.R_alloc | apply Kd.R_drewN | apply Kd.R_drew)); exact HO233.out))) (below_size (belx HB)))
  have n2_ := Aside0.mk (below_step (belx HB) hb)
  clear HO233
  clear HB
  have HO233 := n0_
  have HO236 := n1_
  have HB := n2_
  clear n0_ n1_ n2_
  clear hb ho43
  refine hK.out _ _ trivial (fun hHeld => ?_)
  clear hK K
  refine norm_ (a' := ?_) ?_ ?_
  rotate_left
  · show Act.put _ (some 40) _ = _
    simp only [Act.put, List.setIfInBounds_toArray, List.set_cons_zero, List.set_cons_succ, i64_w, i32_w]
    rfl
  refine one_ (i := 9) (N := some 41) #[true, true, true, true, true, true, true, true, true, true, false] rfl rfl (one_of HT_.out (by kernel_rfl)) (by decide) (fun K hK => ?_)
  have hcv44 := own_string (P := Tryd.prog) Tryd.underlying37 Tryd.underlying5 Tryd.underlying9 (Kd.own_of_R HO236.out)
  refine value_ (w1 := ?_) (v := ?_) (by rfl) rfl ?_ ?_
  rotate_left 2
  · go_simp
    constructor
    · rfl
    · rfl
  clear hcv44
  refine hK.out _ _ trivial (fun hHeld => ?_)
  clear hK K
  refine norm_ (a' := ?_) ?_ ?_
  rotate_left
  · show Act.put _ (some 41) _ = _
    simp only [Act.put, List.setIfInBounds_toArray, List.set_cons_zero, List.set_cons_succ, i64_w, i32_w]
    rfl
  refine pure_ (i := 10) (N := some 7) (v := ?_) (a' := ?_) #[true, true, true, true, true, true, true, true, true, true, true] rfl rfl (any_of HT_.out (by kernel_rfl)) (fun _ _ _ h => h) (Or.inl ⟨by rfl, ?_⟩) ?_ ?_
  rotate_left
  · intro w'
    go_simp
    with_reducible rfl
  rotate_left
  · simp only [Act.put, List.setIfInBounds_toArray, List.set_cons_zero, List.set_cons_succ, i64_w, i32_w]
    rfl
  refine done_ (done_of HT_.out (by kernel_rfl)) ?_
  go_upto_region 10 with (first | ((with_reducible refine gate_callee (f := 11) rfl ?_); refine goesL_ (some 46) rfl rfl Tryd.func11 (by kernel_rfl) rfl #[.string (((⟨#[60]⟩ : ByteArray) ++ (strOfNums y231)) ++ (⟨#[62]⟩ : ByteArray))] rfl (by (try simp only [List.map_toArray, List.map_cons, List.map_nil]); first | done | rfl | (simp only [List.length_drop, List.length_take]; rfl)) ?_; (with_reducible refine (lex_Read.calls k (((⟨#[60]⟩ : ByteArray) ++ (strOfNums y231)) ++ (⟨#[62]⟩ : ByteArray)) t237 t238 t239 _ ?side1 A23.out).mono ?_); (case side1 => exact (by repeat (first | exact hL_ | apply LaidW.drewN | apply LaidW.drew | refine LaidW.below hL_ (belx HB)))); rintro e w45 ⟨v240, rfl, ho0, hb⟩; refine ⟨_, rfl, ?_⟩; have n0_ := Aside0.mk (Kd.R_below (by (with_reducible repeat (first | apply Kd.R_alloc | apply Kd.R_drewN | apply Kd.R_drew)); exact HO233.out) hb); have n1_ := Aside0.mk (Kd.R_below (by (with_reducible repeat (first | apply Kd.R_alloc | apply Kd.R_drewN | apply Kd.R_drew)); exact HO236.out) hb); have n2_ := Aside0.mk (Kd.R_lower ho0 (below_size (belx HB))); have n3_ := Aside0.mk (below_step (belx HB) hb); clear HO233; clear HO236; clear HB; have HO233 := n0_; have HO236 := n1_; have HO241 := n2_; have HB := n3_; clear n0_ n1_ n2_ n3_; (try clear hb); (try clear hb2); (try clear hk); (try clear hi); (try clear ho0)) | ((with_reducible refine gate_callee (f := 11) rfl ?_); refine goesL_ (some 54) rfl rfl Tryd.func11 (by kernel_rfl) rfl #[.string (((⟨#[60, 94]⟩ : ByteArray) ++ (strOfNums y231)) ++ (⟨#[62]⟩ : ByteArray))] rfl (by (try simp only [List.map_toArray, List.map_cons, List.map_nil]); first | done | rfl | (simp only [List.length_drop, List.length_take]; rfl)) ?_; (with_reducible refine (lex_Read.calls k (((⟨#[60, 94]⟩ : ByteArray) ++ (strOfNums y231)) ++ (⟨#[62]⟩ : ByteArray)) t242 t243 t244 _ ?side1 A26.out).mono ?_); (case side1 => exact (by repeat (first | exact hL_ | apply LaidW.drewN | apply LaidW.drew | refine LaidW.below hL_ (belx HB)))); rintro e w46 ⟨v245, rfl, ho0, hb⟩; refine ⟨_, rfl, ?_⟩; have n0_ := Aside0.mk (Kd.R_below (by (with_reducible repeat (first | apply Kd.R_alloc | apply Kd.R_drewN | apply Kd.R_drew)); exact HO233.out) hb); have n1_ := Aside0.mk (Kd.R_below (by (with_reducible repeat (first | apply Kd.R_alloc | apply Kd.R_drewN | apply Kd.R_drew)); exact HO236.out) hb); have n2_ := Aside0.mk (Kd.R_elder' (by (with_reducible repeat (first | apply Kd.R_alloc | apply Kd.R_drewN | apply Kd.R_drew)); exact HO241.out) (Kd.R_base ho0) hb); have n3_ := Aside0.mk (Kd.R_lower (Kd.R_new' ho0 (Kd.R_lt (by (with_reducible repeat (first | apply Kd.R_alloc | apply Kd.R_drewN | apply Kd.R_drew)); exact HO241.out))) (below_size (belx HB))); have n4_ := Aside0.mk (below_step (belx HB) hb); clear HO233; clear HO236; clear HO241; clear HB; have HO233 := n0_; have HO236 := n1_; have HO241 := n2_; have HO246 := n3_; have HB := n4_; clear n0_ n1_ n2_ n3_ n4_; (try clear hb); (try clear hb2); (try clear hk); (try clear hi); (try clear ho0)) | ((with_reducible refine gate_callee (f := 11) rfl ?_); refine goesL_ (some 65) rfl rfl Tryd.func11 (by kernel_rfl) rfl #[.string (((((⟨#[60]⟩ : ByteArray) ++ (strOfNums y231)) ++ (⟨#[45]⟩ : ByteArray)) ++ (strOfNums y234)) ++ (⟨#[62]⟩ : ByteArray))] rfl (by (try simp only [List.map_toArray, List.map_cons, List.map_nil]); first | done | rfl | (simp only [List.length_drop, List.length_take]; rfl)) ?_; (with_reducible refine (lex_Read.calls k (((((⟨#[60]⟩ : ByteArray) ++ (strOfNums y231)) ++ (⟨#[45]⟩ : ByteArray)) ++ (strOfNums y234)) ++ (⟨#[62]⟩ : ByteArray)) t247 t248 t249 _ ?side1 A29.out).mono ?_); (case side1 => exact (by repeat (first | exact hL_ | apply LaidW.drewN | apply LaidW.drew | refine LaidW.below hL_ (belx HB)))); rintro e w47 ⟨v250, rfl, ho0, hb⟩; refine ⟨_, rfl, ?_⟩; have n0_ := Aside0.mk (Kd.R_below (by (with_reducible repeat (first | apply Kd.R_alloc | apply Kd.R_drewN | apply Kd.R_drew)); exact HO233.out) hb); have n1_ := Aside0.mk (Kd.R_below (by (with_reducible repeat (first | apply Kd.R_alloc | apply Kd.R_drewN | apply Kd.R_drew)); exact HO236.out) hb); have n2_ := Aside0.mk (Kd.R_elder' (by (with_reducible repeat (first | apply Kd.R_alloc | apply Kd.R_drewN | apply Kd.R_drew)); exact HO241.out) (Kd.R_base ho0) hb); have n3_ := Aside0.mk (Kd.R_elder' (by (with_reducible repeat (first | apply Kd.R_alloc | apply Kd.R_drewN | apply Kd.R_drew)); exact HO246.out) (Kd.R_base ho0) hb); have n4_ := Aside0.mk (Kd.R_lower (Kd.R_new' (Kd.R_new' ho0 (Kd.R_lt (by (with_reducible repeat (first | apply Kd.R_alloc | apply Kd.R_drewN | apply Kd.R_drew)); exact HO241.out))) (Kd.R_lt (by (with_reducible repeat (first | apply Kd.R_alloc | apply Kd.R_drewN | apply Kd.R_drew)); exact HO246.out))) (below_size (belx HB))); have n5_ := Aside0.mk (below_step (belx HB) hb); clear HO233; clear HO236; clear HO241; clear HO246; clear HB; have HO233 := n0_; have HO236 := n1_; have HO241 := n2_; have HO246 := n3_; have HO251 := n4_; have HB := n5_; clear n0_ n1_ n2_ n3_ n4_ n5_; (try clear hb); (try clear hb2); (try clear hk); (try clear hi); (try clear ho0)) | ((with_reducible refine gate_callee (f := 11) rfl ?_); refine goesL_ (some 79) rfl rfl Tryd.func11 (by kernel_rfl) rfl #[.string (((((((⟨#[60]⟩ : ByteArray) ++ (strOfNums y231)) ++ (⟨#[44]⟩ : ByteArray)) ++ (strOfNums y234)) ++ (⟨#[44]⟩ : ByteArray)) ++ (strOfNums y231)) ++ (⟨#[62]⟩ : ByteArray))] rfl (by (try simp only [List.map_toArray, List.map_cons, List.map_nil]); first | done | rfl | (simp only [List.length_drop, List.length_take]; rfl)) ?_; (with_reducible refine (lex_Read.calls k (((((((⟨#[60]⟩ : ByteArray) ++ (strOfNums y231)) ++ (⟨#[44]⟩ : ByteArray)) ++ (strOfNums y234)) ++ (⟨#[44]⟩ : ByteArray)) ++ (strOfNums y231)) ++ (⟨#[62]⟩ : ByteArray)) t252 t253 t254 _ ?side1 A34.out).mono ?_); (case side1 => exact (by repeat (first | exact hL_ | apply LaidW.drewN | apply LaidW.drew | refine LaidW.below hL_ (belx HB)))); rintro e w48 ⟨v255, rfl, ho0, hb⟩; refine ⟨_, rfl, ?_⟩; have n0_ := Aside0.mk (Kd.R_below (by (with_reducible repeat (first | apply Kd.R_alloc | apply Kd.R_drewN | apply Kd.R_drew)); exact HO233.out) hb); have n1_ := Aside0.mk (Kd.R_below (by (with_reducible repeat (first | apply Kd.R_alloc | apply Kd.R_drewN | apply Kd.R_drew)); exact HO236.out) hb); have n2_ := Aside0.mk (Kd.R_elder' (by (with_reducible repeat (first | apply Kd.R_alloc | apply Kd.R_drewN | apply Kd.R_drew)); exact HO241.out) (Kd.R_base ho0) hb); have n3_ := Aside0.mk (Kd.R_elder' (by (with_reducible repeat (first | apply Kd.R_alloc | apply Kd.R_drewN | apply Kd.R_drew)); exact HO246.out) (Kd.R_base ho0) hb); have n4_ := Aside0.mk (Kd.R_elder' (by (with_reducible repeat (first | apply Kd.R_alloc | apply Kd.R_drewN | apply Kd.R_drew)); exact HO251.out) (Kd.R_base ho0) hb); have n5_ := Aside0.mk (Kd.R_lower (Kd.R_new' (Kd.R_new' (Kd.R_new' ho0 (Kd.R_lt (by (with_reducible repeat (first | apply Kd.R_alloc | apply Kd.R_drewN | apply Kd.R_drew)); exact HO241.out))) (Kd.R_lt (by (with_reducible repeat (first | apply Kd.R_alloc | apply Kd.R_drewN | apply Kd.R_drew)); exact HO246.out))) (Kd.R_lt (by (with_reducible repeat (first | apply Kd.R_alloc | apply Kd.R_drewN | apply Kd.R_drew)); exact HO251.out))) (below_size (belx HB))); have n6_ := Aside0.mk (below_step (belx HB) hb); clear HO233; clear HO236; clear HO241; clear HO246; clear HO251; clear HB; have HO233 := n0_; have HO236 := n1_; have HO241 := n2_; have HO246 := n3_; have HO251 := n4_; have HO256 := n5_; have HB := n6_; clear n0_ n1_ n2_ n3_ n4_ n5_ n6_; (try clear hb); (try clear hb2); (try clear hk); (try clear hi); (try clear ho0)))
  (try simp only [Act.put, List.setIfInBounds_toArray, List.set_cons_zero, List.set_cons_succ])
  go_cut [123] (fun v123 wc => ∃ (kq : Nat) (x123_34 : Bool), v123 = .bool x123_34 ∧ Aside0 (scantlinglaw03_LexClass.j0 kq a0 a1 t237 t242 t247 t248 t252 x123_34 = some r) ∧ Aside0 (kq ≤ k) ∧ Aside0 (Kd.R k35 35 wc w.heap.size (fun k_ => some k_ ≠ (v245 : Value).ownBlock ∧ some k_ ≠ (v250 : Value).ownBlock ∧ some k_ ≠ (v255 : Value).ownBlock) v240 t237) ∧ Aside0 (Kd.R k35 35 wc w.heap.size (fun k_ => some k_ ≠ (v240 : Value).ownBlock ∧ some k_ ≠ (v250 : Value).ownBlock ∧ some k_ ≠ (v255 : Value).ownBlock) v245 t242) ∧ Aside0 (Kd.R k35 35 wc w.heap.size (fun k_ => some k_ ≠ (v240 : Value).ownBlock ∧ some k_ ≠ (v245 : Value).ownBlock ∧ some k_ ≠ (v255 : Value).ownBlock) v250 t247) ∧ Aside0 (Kd.R k35 35 wc w.heap.size (fun k_ => some k_ ≠ (v240 : Value).ownBlock ∧ some k_ ≠ (v245 : Value).ownBlock ∧ some k_ ≠ (v250 : Value).ownBlock) v255 t252) ∧ Aside0 (Below w.heap.size w wc))
  case first =>
    have H := HC35.out
    clear HC35
    by_cases c49 : t238 = 0
    · rw [if_pos c49] at H
      have c49b0 : (t238 == 0) = true := beq_iff_eq.mpr c49
      have c49b1 : (t238 != 0) = false := bne_eq_false_iff_eq.mpr c49
      clear c49
      (first | rw [c49b0] | (simp only [i64_w, i32_w]; rw [c49b0]) | skip)
      by_cases c50 : t243 = 0
      · rw [if_pos c50] at H
        have c50b0 : (t243 == 0) = true := beq_iff_eq.mpr c50
        have c50b1 : (t243 != 0) = false := bne_eq_false_iff_eq.mpr c50
        clear c50
        by_cases c51 : t253 = 0
        · rw [if_pos c51] at H
          have c51b0 : (t253 == 0) = true := beq_iff_eq.mpr c51
          have c51b1 : (t253 != 0) = false := bne_eq_false_iff_eq.mpr c51
          clear c51
          by_cases c52 : (t237.length : Int) = 2
          · rw [if_pos c52] at H
            have c52b0 : ((t237.length : Int) == 2) = true := beq_iff_eq.mpr c52
            have c52b1 : ((t237.length : Int) != 2) = false := bne_eq_false_iff_eq.mpr c52
            clear c52
            by_cases c53 : (t242.length : Int) = 2
            · rw [if_pos c53] at H
              have c53b0 : ((t242.length : Int) == 2) = true := beq_iff_eq.mpr c53
              have c53b1 : ((t242.length : Int) != 2) = false := bne_eq_false_iff_eq.mpr c53
              clear c53
              by_cases c54 : (t252.length : Int) = 2
              · rw [if_pos c54] at H
                have c54b0 : ((t252.length : Int) == 2) = true := beq_iff_eq.mpr c54
                have c54b1 : ((t252.length : Int) != 2) = false := bne_eq_false_iff_eq.mpr c54
                clear c54
                by_cases c55 : ((t248 == 0) != (decide (a0 ≤ a1))) = true
                · rw [if_pos c55] at H; exact absurd H (by simp)
                · rw [if_neg c55] at H
                  have c55b0 : ((t248 == 0) != (decide (a0 ≤ a1))) = false := by simpa using c55
                  (try (have c55b1 : decide ((t248 == 0) = (decide (a0 ≤ a1))) = true := by simpa using c55))
                  (try (have c55b2 : ((t248 == 0) == (decide (a0 ≤ a1))) = true := by simpa using c55))
                  clear c55
                  by_cases c59 : t248 = 0
                  · rw [if_pos c59] at H
                    have c59b0 : (t248 == 0) = true := beq_iff_eq.mpr c59
                    have c55d : a0 ≤ a1 := by rw [c59b0] at c55b0; simpa using c55b0
                    have c55e : ¬ a1 < a0 := by omega
                    have c59b1 : (t248 != 0) = false := bne_eq_false_iff_eq.mpr c59
                    clear c59
                    have H' := Aside0.mk H
                    clear H
                    obtain ⟨Ao60, co60, eo60⟩ := Kd.R_slice HO241.out
                    subst eo60
                    obtain ⟨Ao61, co61, eo61⟩ := Kd.R_slice HO246.out
                    subst eo61
                    obtain ⟨Ao62, co62, eo62⟩ := Kd.R_slice HO256.out
                    subst eo62
                    go_wp2
                    go_meet
                    case rel => exact ⟨_, (false), (by first | rfl | (simp; done) | (simp [*]; done)), H', ⟨by first | omega | exact Nat.le_refl _⟩, ⟨by (with_reducible repeat (first | apply Kd.R_alloc | apply Kd.R_drewN | apply Kd.R_drew)); exact Kd.R_mono HO241.out (fun _ hk => ⟨hk.1.1.2, ⟨hk.1.2, hk.2⟩⟩)⟩, ⟨by (with_reducible repeat (first | apply Kd.R_alloc | apply Kd.R_drewN | apply Kd.R_drew)); exact Kd.R_mono HO246.out (fun _ hk => ⟨hk.1.1.2, ⟨hk.1.2, hk.2⟩⟩)⟩, ⟨by (with_reducible repeat (first | apply Kd.R_alloc | apply Kd.R_drewN | apply Kd.R_drew)); exact Kd.R_mono HO251.out (fun _ hk => ⟨hk.1.1.2, ⟨hk.1.2, hk.2⟩⟩)⟩, ⟨by (with_reducible repeat (first | apply Kd.R_alloc | apply Kd.R_drewN | apply Kd.R_drew)); exact Kd.R_mono HO256.out (fun _ hk => ⟨hk.1.1.2, ⟨hk.1.2, hk.2⟩⟩)⟩, ⟨belx HB⟩⟩
                  · rw [if_neg c59] at H
                    have c59b0 : (t248 == 0) = false := beq_eq_false_iff_ne.mpr c59
                    have c55d : ¬ a0 ≤ a1 := by rw [c59b0] at c55b0; simpa using c55b0
                    have c55e : a1 < a0 := by omega
                    have c59b1 : (t248 != 0) = true := bne_iff_ne.mpr c59
                    have H' := Aside0.mk H
                    clear H
                    obtain ⟨Ao63, co63, eo63⟩ := Kd.R_slice HO241.out
                    subst eo63
                    obtain ⟨Ao64, co64, eo64⟩ := Kd.R_slice HO246.out
                    subst eo64
                    obtain ⟨Ao65, co65, eo65⟩ := Kd.R_slice HO256.out
                    subst eo65
                    go_wp2
                    go_meet
                    case rel => exact ⟨_, ((t248 != 2)), (by first | rfl | (simp; done) | (simp [*]; done)), H', ⟨by first | omega | exact Nat.le_refl _⟩, ⟨by (with_reducible repeat (first | apply Kd.R_alloc | apply Kd.R_drewN | apply Kd.R_drew)); exact Kd.R_mono HO241.out (fun _ hk => ⟨hk.1.1.2, ⟨hk.1.2, hk.2⟩⟩)⟩, ⟨by (with_reducible repeat (first | apply Kd.R_alloc | apply Kd.R_drewN | apply Kd.R_drew)); exact Kd.R_mono HO246.out (fun _ hk => ⟨hk.1.1.2, ⟨hk.1.2, hk.2⟩⟩)⟩, ⟨by (with_reducible repeat (first | apply Kd.R_alloc | apply Kd.R_drewN | apply Kd.R_drew)); exact Kd.R_mono HO251.out (fun _ hk => ⟨hk.1.1.2, ⟨hk.1.2, hk.2⟩⟩)⟩, ⟨by (with_reducible repeat (first | apply Kd.R_alloc | apply Kd.R_drewN | apply Kd.R_drew)); exact Kd.R_mono HO256.out (fun _ hk => ⟨hk.1.1.2, ⟨hk.1.2, hk.2⟩⟩)⟩, ⟨belx HB⟩⟩
              · rw [if_neg c54] at H; exact absurd H (by simp)
            · rw [if_neg c53] at H; exact absurd H (by simp)
          · rw [if_neg c52] at H; exact absurd H (by simp)
        · rw [if_neg c51] at H; exact absurd H (by simp)
      · rw [if_neg c50] at H; exact absurd H (by simp)
    · rw [if_neg c49] at H; exact absurd H (by simp)
  case rest =>
    clear HC35
    try clear c4; try clear c6; try clear c6b0; try clear c7; try clear c7b0; try clear p8; try clear q8; try clear hx8; try clear c10; try clear c10b0; try clear c11; try clear c11b0; try clear p12; try clear q12; try clear hx12; try clear c14; try clear c14b0; try clear c15; try clear c15b0; try clear p16; try clear q16; try clear hx16; try clear c18; try clear c18b0; try clear c19; try clear c19b0; try clear p20; try clear q20; try clear hx20; try clear c21; try clear c21b0; try clear c21b1; try clear c21b2; try clear c22; try clear c22b0; try clear c22b1; try clear c22b2; try clear c24; try clear c24b0; try clear c24b1; try clear c24b2; try clear c25; try clear c25b0; try clear c25b1; try clear c25b2; try clear c27; try clear c27b0; try clear c27b1; try clear c27b2; try clear c28; try clear c28b0; try clear c28b1; try clear c28b2; try clear c30; try clear c30b0; try clear c30b1; try clear c30b2; try clear c31; try clear c31b0; try clear c31b1; try clear c31b2; try clear c32; try clear c32b0; try clear c32b1; try clear c32b2; try clear c33; try clear c33b0; try clear c33b1; try clear c33b2; try clear hcv40; try clear hcv44; try clear p12; try clear p16; try clear p20; try clear p8; try clear q12; try clear q16; try clear q20; try clear q8
    obtain ⟨kq, x123_34, rfl, HA, HJ34, HO_8, HO_11, HO_14, HO_17, HB⟩ := hcut
    cases kq with
    | zero => exact absurd HA.out (by simp [scantlinglaw03_LexClass.j0])
    | succ kj34 =>
      have H := HA.out
      clear HA
      simp only [scantlinglaw03_LexClass.j0] at H
      by_cases c72 : x123_34 = true
      case pos => rw [if_pos c72] at H; exact absurd H (by simp)
      replace c72 := Bool.eq_false_iff.mpr c72
      subst c72
      have H1 : (if 0 < (t237.length : Int) then ((scantlingref01_Row.f kj34 a0 a0).bind fun bt258 => (if (((rd_T35 t237 0).f2.f0) == bt258.1 && (((rd_T35 t237 0).f2.f1) == bt258.2.1 && (((rd_T35 t237 0).f2.f2) == bt258.2.2.1 && (((rd_T35 t237 0).f2.f3) == bt258.2.2.2)))) = true then (if 0 < (t242.length : Int) then ((scantlingref01_Not.f kj34 ((rd_T35 t237 0).f2.f0) ((rd_T35 t237 0).f2.f1) ((rd_T35 t237 0).f2.f2) ((rd_T35 t237 0).f2.f3)).bind fun bt264 => (if (((rd_T35 t242 0).f2.f0) == bt264.1 && (((rd_T35 t242 0).f2.f1) == bt264.2.1 && (((rd_T35 t242 0).f2.f2) == bt264.2.2.1 && (((rd_T35 t242 0).f2.f3) == bt264.2.2.2)))) = true then (if 0 < (t252.length : Int) then ((scantlingref01_Row.f kj34 a0 a0).bind fun bt269 => ((scantlingref01_Row.f kj34 a1 a1).bind fun bt273 => ((scantlingref01_Join.f kj34 bt269.1 bt269.2.1 bt269.2.2.1 bt269.2.2.2 bt273.1 bt273.2.1 bt273.2.2.1 bt273.2.2.2).bind fun bt277 => (if (((rd_T35 t252 0).f2.f0) == bt277.1 && (((rd_T35 t252 0).f2.f1) == bt277.2.1 && (((rd_T35 t252 0).f2.f2) == bt277.2.2.1 && (((rd_T35 t252 0).f2.f3) == bt277.2.2.2)))) = true then (if t248 = 0 then (if (t247.length : Int) = 2 then (if 0 < (t247.length : Int) then ((scantlingref01_Row.f kj34 a0 a1).bind fun bt282 => (some (((rd_T35 t247 0).f2.f0) == bt282.1 && (((rd_T35 t247 0).f2.f1) == bt282.2.1 && (((rd_T35 t247 0).f2.f2) == bt282.2.2.1 && (((rd_T35 t247 0).f2.f3) == bt282.2.2.2)))))) else (none)) else (none)) else (some true)) else (none))))) else (none)) else (none))) else (none)) else (none))) else (none)) = some r := by rw [if_neg (show ¬ (false = true) by decide)] at H; exact H
      clear H
      have H := H1
      clear H1
      by_cases c73 : 0 < (t237.length : Int)
      case neg => rw [if_neg c73] at H; exact absurd H (by simp)
      rw [if_pos c73] at H
      have c73b0 : decide (0 < (t237.length : Int)) = true := decide_eq_true c73
      have c73b1 : decide (0 < t237.length) = true := decide_eq_true (by omega)
      clear c73
      replace H := Option.bind_eq_some_iff.mp H
      obtain ⟨⟨t258, t259, t260, t261⟩, A740, H⟩ := H
      replace H : (if (((rd_T35 t237 0).f2.f0) == t258 && (((rd_T35 t237 0).f2.f1) == t259 && (((rd_T35 t237 0).f2.f2) == t260 && (((rd_T35 t237 0).f2.f3) == t261)))) = true then (if 0 < (t242.length : Int) then ((scantlingref01_Not.f kj34 ((rd_T35 t237 0).f2.f0) ((rd_T35 t237 0).f2.f1) ((rd_T35 t237 0).f2.f2) ((rd_T35 t237 0).f2.f3)).bind fun bt264 => (if (((rd_T35 t242 0).f2.f0) == bt264.1 && (((rd_T35 t242 0).f2.f1) == bt264.2.1 && (((rd_T35 t242 0).f2.f2) == bt264.2.2.1 && (((rd_T35 t242 0).f2.f3) == bt264.2.2.2)))) = true then (if 0 < (t252.length : Int) then ((scantlingref01_Row.f kj34 a0 a0).bind fun bt269 => ((scantlingref01_Row.f kj34 a1 a1).bind fun bt273 => ((scantlingref01_Join.f kj34 bt269.1 bt269.2.1 bt269.2.2.1 bt269.2.2.2 bt273.1 bt273.2.1 bt273.2.2.1 bt273.2.2.2).bind fun bt277 => (if (((rd_T35 t252 0).f2.f0) == bt277.1 && (((rd_T35 t252 0).f2.f1) == bt277.2.1 && (((rd_T35 t252 0).f2.f2) == bt277.2.2.1 && (((rd_T35 t252 0).f2.f3) == bt277.2.2.2)))) = true then (if t248 = 0 then (if (t247.length : Int) = 2 then (if 0 < (t247.length : Int) then ((scantlingref01_Row.f kj34 a0 a1).bind fun bt282 => (some (((rd_T35 t247 0).f2.f0) == bt282.1 && (((rd_T35 t247 0).f2.f1) == bt282.2.1 && (((rd_T35 t247 0).f2.f2) == bt282.2.2.1 && (((rd_T35 t247 0).f2.f3) == bt282.2.2.2)))))) else (none)) else (none)) else (some true)) else (none))))) else (none)) else (none))) else (none)) else (none)) = some r := H
      have A74 := Aside0.mk A740
      clear A740
      by_cases c75 : (((rd_T35 t237 0).f2.f0) == t258 && (((rd_T35 t237 0).f2.f1) == t259 && (((rd_T35 t237 0).f2.f2) == t260 && (((rd_T35 t237 0).f2.f3) == t261)))) = true
      case neg => rw [if_neg c75] at H; exact absurd H (by simp)
      rw [if_pos c75] at H
      have c75b0 : (((rd_T35 t237 0).f2.f0) == t258 && (((rd_T35 t237 0).f2.f1) == t259 && (((rd_T35 t237 0).f2.f2) == t260 && (((rd_T35 t237 0).f2.f3) == t261)))) = true := c75
      (try (have c75b1 : decide (((rd_T35 t237 0).f2.f0) = t258 && (((rd_T35 t237 0).f2.f1) == t259 && (((rd_T35 t237 0).f2.f2) == t260 && (((rd_T35 t237 0).f2.f3) == t261)))) = true := by simpa using c75))
      (try (have c75b2 : (((rd_T35 t237 0).f2.f0) == t258 && (((rd_T35 t237 0).f2.f1) == t259 && (((rd_T35 t237 0).f2.f2) == t260 && (((rd_T35 t237 0).f2.f3) == t261)))) = true := by simpa using c75))
      clear c75
      by_cases c76 : 0 < (t242.length : Int)
      case neg => rw [if_neg c76] at H; exact absurd H (by simp)
      rw [if_pos c76] at H
      have c76b0 : decide (0 < (t242.length : Int)) = true := decide_eq_true c76
      have c76b1 : decide (0 < t242.length) = true := decide_eq_true (by omega)
      clear c76
      replace H := Option.bind_eq_some_iff.mp H
      obtain ⟨⟨t264, t265, t266, t267⟩, A770, H⟩ := H
      replace H : (if (((rd_T35 t242 0).f2.f0) == t264 && (((rd_T35 t242 0).f2.f1) == t265 && (((rd_T35 t242 0).f2.f2) == t266 && (((rd_T35 t242 0).f2.f3) == t267)))) = true then (if 0 < (t252.length : Int) then ((scantlingref01_Row.f kj34 a0 a0).bind fun bt269 => ((scantlingref01_Row.f kj34 a1 a1).bind fun bt273 => ((scantlingref01_Join.f kj34 bt269.1 bt269.2.1 bt269.2.2.1 bt269.2.2.2 bt273.1 bt273.2.1 bt273.2.2.1 bt273.2.2.2).bind fun bt277 => (if (((rd_T35 t252 0).f2.f0) == bt277.1 && (((rd_T35 t252 0).f2.f1) == bt277.2.1 && (((rd_T35 t252 0).f2.f2) == bt277.2.2.1 && (((rd_T35 t252 0).f2.f3) == bt277.2.2.2)))) = true then (if t248 = 0 then (if (t247.length : Int) = 2 then (if 0 < (t247.length : Int) then ((scantlingref01_Row.f kj34 a0 a1).bind fun bt282 => (some (((rd_T35 t247 0).f2.f0) == bt282.1 && (((rd_T35 t247 0).f2.f1) == bt282.2.1 && (((rd_T35 t247 0).f2.f2) == bt282.2.2.1 && (((rd_T35 t247 0).f2.f3) == bt282.2.2.2)))))) else (none)) else (none)) else (some true)) else (none))))) else (none)) else (none)) = some r := H
      have A77 := Aside0.mk A770
      clear A770
      by_cases c78 : (((rd_T35 t242 0).f2.f0) == t264 && (((rd_T35 t242 0).f2.f1) == t265 && (((rd_T35 t242 0).f2.f2) == t266 && (((rd_T35 t242 0).f2.f3) == t267)))) = true
      case neg => rw [if_neg c78] at H; exact absurd H (by simp)
      rw [if_pos c78] at H
      have c78b0 : (((rd_T35 t242 0).f2.f0) == t264 && (((rd_T35 t242 0).f2.f1) == t265 && (((rd_T35 t242 0).f2.f2) == t266 && (((rd_T35 t242 0).f2.f3) == t267)))) = true := c78
      (try (have c78b1 : decide (((rd_T35 t242 0).f2.f0) = t264 && (((rd_T35 t242 0).f2.f1) == t265 && (((rd_T35 t242 0).f2.f2) == t266 && (((rd_T35 t242 0).f2.f3) == t267)))) = true := by simpa using c78))
      (try (have c78b2 : (((rd_T35 t242 0).f2.f0) == t264 && (((rd_T35 t242 0).f2.f1) == t265 && (((rd_T35 t242 0).f2.f2) == t266 && (((rd_T35 t242 0).f2.f3) == t267)))) = true := by simpa using c78))
      clear c78
      by_cases c79 : 0 < (t252.length : Int)
      case neg => rw [if_neg c79] at H; exact absurd H (by simp)
      rw [if_pos c79] at H
      have c79b0 : decide (0 < (t252.length : Int)) = true := decide_eq_true c79
      have c79b1 : decide (0 < t252.length) = true := decide_eq_true (by omega)
      clear c79
      replace H := Option.bind_eq_some_iff.mp H
      obtain ⟨⟨t269, t270, t271, t272⟩, A800, H⟩ := H
      replace H : ((scantlingref01_Row.f kj34 a1 a1).bind fun bt273 => ((scantlingref01_Join.f kj34 t269 t270 t271 t272 bt273.1 bt273.2.1 bt273.2.2.1 bt273.2.2.2).bind fun bt277 => (if (((rd_T35 t252 0).f2.f0) == bt277.1 && (((rd_T35 t252 0).f2.f1) == bt277.2.1 && (((rd_T35 t252 0).f2.f2) == bt277.2.2.1 && (((rd_T35 t252 0).f2.f3) == bt277.2.2.2)))) = true then (if t248 = 0 then (if (t247.length : Int) = 2 then (if 0 < (t247.length : Int) then ((scantlingref01_Row.f kj34 a0 a1).bind fun bt282 => (some (((rd_T35 t247 0).f2.f0) == bt282.1 && (((rd_T35 t247 0).f2.f1) == bt282.2.1 && (((rd_T35 t247 0).f2.f2) == bt282.2.2.1 && (((rd_T35 t247 0).f2.f3) == bt282.2.2.2)))))) else (none)) else (none)) else (some true)) else (none)))) = some r := H
      have A80 := Aside0.mk A800
      clear A800
      replace H := Option.bind_eq_some_iff.mp H
      obtain ⟨⟨t273, t274, t275, t276⟩, A810, H⟩ := H
      replace H : ((scantlingref01_Join.f kj34 t269 t270 t271 t272 t273 t274 t275 t276).bind fun bt277 => (if (((rd_T35 t252 0).f2.f0) == bt277.1 && (((rd_T35 t252 0).f2.f1) == bt277.2.1 && (((rd_T35 t252 0).f2.f2) == bt277.2.2.1 && (((rd_T35 t252 0).f2.f3) == bt277.2.2.2)))) = true then (if t248 = 0 then (if (t247.length : Int) = 2 then (if 0 < (t247.length : Int) then ((scantlingref01_Row.f kj34 a0 a1).bind fun bt282 => (some (((rd_T35 t247 0).f2.f0) == bt282.1 && (((rd_T35 t247 0).f2.f1) == bt282.2.1 && (((rd_T35 t247 0).f2.f2) == bt282.2.2.1 && (((rd_T35 t247 0).f2.f3) == bt282.2.2.2)))))) else (none)) else (none)) else (some true)) else (none))) = some r := H
      have A81 := Aside0.mk A810
      clear A810
      replace H := Option.bind_eq_some_iff.mp H
      obtain ⟨⟨t277, t278, t279, t280⟩, A820, H⟩ := H
      replace H : (if (((rd_T35 t252 0).f2.f0) == t277 && (((rd_T35 t252 0).f2.f1) == t278 && (((rd_T35 t252 0).f2.f2) == t279 && (((rd_T35 t252 0).f2.f3) == t280)))) = true then (if t248 = 0 then (if (t247.length : Int) = 2 then (if 0 < (t247.length : Int) then ((scantlingref01_Row.f kj34 a0 a1).bind fun bt282 => (some (((rd_T35 t247 0).f2.f0) == bt282.1 && (((rd_T35 t247 0).f2.f1) == bt282.2.1 && (((rd_T35 t247 0).f2.f2) == bt282.2.2.1 && (((rd_T35 t247 0).f2.f3) == bt282.2.2.2)))))) else (none)) else (none)) else (some true)) else (none)) = some r := H
      have A82 := Aside0.mk A820
      clear A820
      by_cases c83 : (((rd_T35 t252 0).f2.f0) == t277 && (((rd_T35 t252 0).f2.f1) == t278 && (((rd_T35 t252 0).f2.f2) == t279 && (((rd_T35 t252 0).f2.f3) == t280)))) = true
      case neg => rw [if_neg c83] at H; exact absurd H (by simp)
      rw [if_pos c83] at H
      have c83b0 : (((rd_T35 t252 0).f2.f0) == t277 && (((rd_T35 t252 0).f2.f1) == t278 && (((rd_T35 t252 0).f2.f2) == t279 && (((rd_T35 t252 0).f2.f3) == t280)))) = true := c83
      (try (have c83b1 : decide (((rd_T35 t252 0).f2.f0) = t277 && (((rd_T35 t252 0).f2.f1) == t278 && (((rd_T35 t252 0).f2.f2) == t279 && (((rd_T35 t252 0).f2.f3) == t280)))) = true := by simpa using c83))
      (try (have c83b2 : (((rd_T35 t252 0).f2.f0) == t277 && (((rd_T35 t252 0).f2.f1) == t278 && (((rd_T35 t252 0).f2.f2) == t279 && (((rd_T35 t252 0).f2.f3) == t280)))) = true := by simpa using c83))
      clear c83
      by_cases c84 : t248 = 0
      case neg =>
        rw [if_neg c84] at H
        have c84b0 : (t248 == 0) = false := beq_eq_false_iff_ne.mpr c84
        have c84b1 : (t248 != 0) = true := bne_iff_ne.mpr c84
        obtain rfl := Option.some.inj H
        try go_wp2
        have n0_ := Aside0.mk (Kd.R_drew HO_8.out)
        have n1_ := Aside0.mk (Kd.R_drew HO_11.out)
        have n2_ := Aside0.mk (Kd.R_drew HO_14.out)
        have n3_ := Aside0.mk (Kd.R_drew HO_17.out)
        have n4_ := Aside0.mk (below_drew1 HB.out)
        clear HO_8
        clear HO_11
        clear HO_14
        clear HO_17
        clear HB
        have HO_8 := n0_
        have HO_11 := n1_
        have HO_14 := n2_
        have HO_17 := n3_
        have HB := n4_
        clear n0_ n1_ n2_ n3_ n4_
        obtain ⟨Ao110, co110, eo110⟩ := Kd.R_slice HO_8.out
        (first | subst eo110 | (injection eo110 with f1_ f2_ f3_; have f4_ := f1_.symm; have f5_ := f3_.symm; clear f1_ f2_ f3_; subst f4_; subst f5_))
        obtain ⟨AxHO_11, cxHO_11, exHO_11⟩ := Kd.R_slice HO_11.out; subst exHO_11
        obtain ⟨AxHO_17, cxHO_17, exHO_17⟩ := Kd.R_slice HO_17.out; subst exHO_17
        have p257 : 0 ≤ (0 : Int) := (by omega)
        have q257 : 0 < (t237.length : Int) := odt
        obtain ⟨ad257, e257, hx257_0, hx257_1, hx257_2, hx257_3, hx257_4, hx257_5, hx257_6, hx257_7, hx257_8⟩ := at_T35 (Kd.R_reads' HO_8.out).2.2 0 p257 q257
        cases e257
        have qi257 : (0 < t237.length) = True := eq_true (by omega)
        (try rw [show ((0 : Int)).toNat = 0 from rfl] at hx257_0)
        (try rw [show 0 * 9 = 0 from rfl] at hx257_0)
        (try rw [Addr.add_zero'] at hx257_0)
        (try rw [show ((0 : Int)).toNat = 0 from rfl] at hx257_1)
        (try rw [show 0 * 9 = 0 from rfl] at hx257_1)
        (try rw [Addr.add_zero'] at hx257_1)
        (try rw [show ((0 : Int)).toNat = 0 from rfl] at hx257_2)
        (try rw [show 0 * 9 = 0 from rfl] at hx257_2)
        (try rw [Addr.add_zero'] at hx257_2)
        (try rw [show ((0 : Int)).toNat = 0 from rfl] at hx257_3)
        (try rw [show 0 * 9 = 0 from rfl] at hx257_3)
        (try rw [Addr.add_zero'] at hx257_3)
        (try rw [show ((0 : Int)).toNat = 0 from rfl] at hx257_4)
        (try rw [show 0 * 9 = 0 from rfl] at hx257_4)
        (try rw [Addr.add_zero'] at hx257_4)
        (try rw [show ((0 : Int)).toNat = 0 from rfl] at hx257_5)
        (try rw [show 0 * 9 = 0 from rfl] at hx257_5)
        (try rw [Addr.add_zero'] at hx257_5)
        (try rw [show ((0 : Int)).toNat = 0 from rfl] at hx257_6)
        (try rw [show 0 * 9 = 0 from rfl] at hx257_6)
        (try rw [Addr.add_zero'] at hx257_6)
        (try rw [show ((0 : Int)).toNat = 0 from rfl] at hx257_7)
        (try rw [show 0 * 9 = 0 from rfl] at hx257_7)
        (try rw [Addr.add_zero'] at hx257_7)
        (try rw [show ((0 : Int)).toNat = 0 from rfl] at hx257_8)
        (try rw [show 0 * 9 = 0 from rfl] at hx257_8)
        (try rw [Addr.add_zero'] at hx257_8)
        replace p257 := eq_true p257
        replace q257 := eq_true q257
        have p262 : 0 ≤ (0 : Int) := (by omega)
        have q262 : 0 < (t242.length : Int) := odt
        obtain ⟨ad262, e262, hx262_0, hx262_1, hx262_2, hx262_3, hx262_4, hx262_5, hx262_6, hx262_7, hx262_8⟩ := at_T35 (Kd.R_reads' HO_11.out).2.2 0 p262 q262
        cases e262
        have qi262 : (0 < t242.length) = True := eq_true (by omega)
        (try rw [show ((0 : Int)).toNat = 0 from rfl] at hx262_0)
        (try rw [show 0 * 9 = 0 from rfl] at hx262_0)
        (try rw [Addr.add_zero'] at hx262_0)
        (try rw [show ((0 : Int)).toNat = 0 from rfl] at hx262_1)
        (try rw [show 0 * 9 = 0 from rfl] at hx262_1)
        (try rw [Addr.add_zero'] at hx262_1)
        (try rw [show ((0 : Int)).toNat = 0 from rfl] at hx262_2)
        (try rw [show 0 * 9 = 0 from rfl] at hx262_2)
        (try rw [Addr.add_zero'] at hx262_2)
        (try rw [show ((0 : Int)).toNat = 0 from rfl] at hx262_3)
        (try rw [show 0 * 9 = 0 from rfl] at hx262_3)
        (try rw [Addr.add_zero'] at hx262_3)
        (try rw [show ((0 : Int)).toNat = 0 from rfl] at hx262_4)
        (try rw [show 0 * 9 = 0 from rfl] at hx262_4)
        (try rw [Addr.add_zero'] at hx262_4)
        (try rw [show ((0 : Int)).toNat = 0 from rfl] at hx262_5)
        (try rw [show 0 * 9 = 0 from rfl] at hx262_5)
        (try rw [Addr.add_zero'] at hx262_5)
        (try rw [show ((0 : Int)).toNat = 0 from rfl] at hx262_6)
        (try rw [show 0 * 9 = 0 from rfl] at hx262_6)
        (try rw [Addr.add_zero'] at hx262_6)
        (try rw [show ((0 : Int)).toNat = 0 from rfl] at hx262_7)
        (try rw [show 0 * 9 = 0 from rfl] at hx262_7)
        (try rw [Addr.add_zero'] at hx262_7)
        (try rw [show ((0 : Int)).toNat = 0 from rfl] at hx262_8)
        (try rw [show 0 * 9 = 0 from rfl] at hx262_8)
        (try rw [Addr.add_zero'] at hx262_8)
        replace p262 := eq_true p262
        replace q262 := eq_true q262
        have p263 : 0 ≤ (0 : Int) := (by omega)
        have q263 : 0 < (t237.length : Int) := odt
        obtain ⟨ad263, e263, hx263_0, hx263_1, hx263_2, hx263_3, hx263_4, hx263_5, hx263_6, hx263_7, hx263_8⟩ := at_T35 (Kd.R_reads' HO_8.out).2.2 0 p263 q263
        obtain rfl : ad257 = ad263 := (by injection e263)
        have qi263 : (0 < t237.length) = True := eq_true (by omega)
        (try rw [show ((0 : Int)).toNat = 0 from rfl] at hx263_0)
        (try rw [show 0 * 9 = 0 from rfl] at hx263_0)
        (try rw [Addr.add_zero'] at hx263_0)
        (try rw [show ((0 : Int)).toNat = 0 from rfl] at hx263_1)
        (try rw [show 0 * 9 = 0 from rfl] at hx263_1)
        (try rw [Addr.add_zero'] at hx263_1)
        (try rw [show ((0 : Int)).toNat = 0 from rfl] at hx263_2)
        (try rw [show 0 * 9 = 0 from rfl] at hx263_2)
        (try rw [Addr.add_zero'] at hx263_2)
        (try rw [show ((0 : Int)).toNat = 0 from rfl] at hx263_3)
        (try rw [show 0 * 9 = 0 from rfl] at hx263_3)
        (try rw [Addr.add_zero'] at hx263_3)
        (try rw [show ((0 : Int)).toNat = 0 from rfl] at hx263_4)
        (try rw [show 0 * 9 = 0 from rfl] at hx263_4)
        (try rw [Addr.add_zero'] at hx263_4)
        (try rw [show ((0 : Int)).toNat = 0 from rfl] at hx263_5)
        (try rw [show 0 * 9 = 0 from rfl] at hx263_5)
        (try rw [Addr.add_zero'] at hx263_5)
        (try rw [show ((0 : Int)).toNat = 0 from rfl] at hx263_6)
        (try rw [show 0 * 9 = 0 from rfl] at hx263_6)
        (try rw [Addr.add_zero'] at hx263_6)
        (try rw [show ((0 : Int)).toNat = 0 from rfl] at hx263_7)
        (try rw [show 0 * 9 = 0 from rfl] at hx263_7)
        (try rw [Addr.add_zero'] at hx263_7)
        (try rw [show ((0 : Int)).toNat = 0 from rfl] at hx263_8)
        (try rw [show 0 * 9 = 0 from rfl] at hx263_8)
        (try rw [Addr.add_zero'] at hx263_8)
        replace p263 := eq_true p263
        replace q263 := eq_true q263
        have p268 : 0 ≤ (0 : Int) := (by omega)
        have q268 : 0 < (t252.length : Int) := odt
        obtain ⟨ad268, e268, hx268_0, hx268_1, hx268_2, hx268_3, hx268_4, hx268_5, hx268_6, hx268_7, hx268_8⟩ := at_T35 (Kd.R_reads' HO_17.out).2.2 0 p268 q268
        cases e268
        have qi268 : (0 < t252.length) = True := eq_true (by omega)
        (try rw [show ((0 : Int)).toNat = 0 from rfl] at hx268_0)
        (try rw [show 0 * 9 = 0 from rfl] at hx268_0)
        (try rw [Addr.add_zero'] at hx268_0)
        (try rw [show ((0 : Int)).toNat = 0 from rfl] at hx268_1)
        (try rw [show 0 * 9 = 0 from rfl] at hx268_1)
        (try rw [Addr.add_zero'] at hx268_1)
        (try rw [show ((0 : Int)).toNat = 0 from rfl] at hx268_2)
        (try rw [show 0 * 9 = 0 from rfl] at hx268_2)
        (try rw [Addr.add_zero'] at hx268_2)
        (try rw [show ((0 : Int)).toNat = 0 from rfl] at hx268_3)
        (try rw [show 0 * 9 = 0 from rfl] at hx268_3)
        (try rw [Addr.add_zero'] at hx268_3)
        (try rw [show ((0 : Int)).toNat = 0 from rfl] at hx268_4)
        (try rw [show 0 * 9 = 0 from rfl] at hx268_4)
        (try rw [Addr.add_zero'] at hx268_4)
        (try rw [show ((0 : Int)).toNat = 0 from rfl] at hx268_5)
        (try rw [show 0 * 9 = 0 from rfl] at hx268_5)
        (try rw [Addr.add_zero'] at hx268_5)
        (try rw [show ((0 : Int)).toNat = 0 from rfl] at hx268_6)
        (try rw [show 0 * 9 = 0 from rfl] at hx268_6)
        (try rw [Addr.add_zero'] at hx268_6)
        (try rw [show ((0 : Int)).toNat = 0 from rfl] at hx268_7)
        (try rw [show 0 * 9 = 0 from rfl] at hx268_7)
        (try rw [Addr.add_zero'] at hx268_7)
        (try rw [show ((0 : Int)).toNat = 0 from rfl] at hx268_8)
        (try rw [show 0 * 9 = 0 from rfl] at hx268_8)
        (try rw [Addr.add_zero'] at hx268_8)
        replace p268 := eq_true p268
        replace q268 := eq_true q268
        refine start_ (n := 54) (S := fun w' => w'.cell? ad257 = some (.int .i64 ((rd_T35 t237 0).f0)) ∧ w'.cell? ⟨ad257.block, ad257.off + 1, none⟩ = some (.int .i64 ((rd_T35 t237 0).f1)) ∧ w'.cell? ⟨ad257.block, ad257.off + 2, none⟩ = some (.int .u64 ((rd_T35 t237 0).f2.f0)) ∧ w'.cell? ⟨ad257.block, ad257.off + 3, none⟩ = some (.int .u64 ((rd_T35 t237 0).f2.f1)) ∧ w'.cell? ⟨ad257.block, ad257.off + 4, none⟩ = some (.int .u64 ((rd_T35 t237 0).f2.f2)) ∧ w'.cell? ⟨ad257.block, ad257.off + 5, none⟩ = some (.int .u64 ((rd_T35 t237 0).f2.f3)) ∧ w'.cell? ⟨ad257.block, ad257.off + 6, none⟩ = some (.string ((rd_T35 t237 0).f3)) ∧ w'.cell? ⟨ad257.block, ad257.off + 7, none⟩ = some (.int .i64 ((rd_T35 t237 0).f4)) ∧ w'.cell? ⟨ad257.block, ad257.off + 8, none⟩ = some (.int .i64 ((rd_T35 t237 0).f5)) ∧ w'.cell? ad262 = some (.int .i64 ((rd_T35 t242 0).f0)) ∧ w'.cell? ⟨ad262.block, ad262.off + 1, none⟩ = some (.int .i64 ((rd_T35 t242 0).f1)) ∧ w'.cell? ⟨ad262.block, ad262.off + 2, none⟩ = some (.int .u64 ((rd_T35 t242 0).f2.f0)) ∧ w'.cell? ⟨ad262.block, ad262.off + 3, none⟩ = some (.int .u64 ((rd_T35 t242 0).f2.f1)) ∧ w'.cell? ⟨ad262.block, ad262.off + 4, none⟩ = some (.int .u64 ((rd_T35 t242 0).f2.f2)) ∧ w'.cell? ⟨ad262.block, ad262.off + 5, none⟩ = some (.int .u64 ((rd_T35 t242 0).f2.f3)) ∧ w'.cell? ⟨ad262.block, ad262.off + 6, none⟩ = some (.string ((rd_T35 t242 0).f3)) ∧ w'.cell? ⟨ad262.block, ad262.off + 7, none⟩ = some (.int .i64 ((rd_T35 t242 0).f4)) ∧ w'.cell? ⟨ad262.block, ad262.off + 8, none⟩ = some (.int .i64 ((rd_T35 t242 0).f5)) ∧ w'.cell? ad257 = some (.int .i64 ((rd_T35 t237 0).f0)) ∧ w'.cell? ⟨ad257.block, ad257.off + 1, none⟩ = some (.int .i64 ((rd_T35 t237 0).f1)) ∧ w'.cell? ⟨ad257.block, ad257.off + 2, none⟩ = some (.int .u64 ((rd_T35 t237 0).f2.f0)) ∧ w'.cell? ⟨ad257.block, ad257.off + 3, none⟩ = some (.int .u64 ((rd_T35 t237 0).f2.f1)) ∧ w'.cell? ⟨ad257.block, ad257.off + 4, none⟩ = some (.int .u64 ((rd_T35 t237 0).f2.f2)) ∧ w'.cell? ⟨ad257.block, ad257.off + 5, none⟩ = some (.int .u64 ((rd_T35 t237 0).f2.f3)) ∧ w'.cell? ⟨ad257.block, ad257.off + 6, none⟩ = some (.string ((rd_T35 t237 0).f3)) ∧ w'.cell? ⟨ad257.block, ad257.off + 7, none⟩ = some (.int .i64 ((rd_T35 t237 0).f4)) ∧ w'.cell? ⟨ad257.block, ad257.off + 8, none⟩ = some (.int .i64 ((rd_T35 t237 0).f5)) ∧ w'.cell? ad268 = some (.int .i64 ((rd_T35 t252 0).f0)) ∧ w'.cell? ⟨ad268.block, ad268.off + 1, none⟩ = some (.int .i64 ((rd_T35 t252 0).f1)) ∧ w'.cell? ⟨ad268.block, ad268.off + 2, none⟩ = some (.int .u64 ((rd_T35 t252 0).f2.f0)) ∧ w'.cell? ⟨ad268.block, ad268.off + 3, none⟩ = some (.int .u64 ((rd_T35 t252 0).f2.f1)) ∧ w'.cell? ⟨ad268.block, ad268.off + 4, none⟩ = some (.int .u64 ((rd_T35 t252 0).f2.f2)) ∧ w'.cell? ⟨ad268.block, ad268.off + 5, none⟩ = some (.int .u64 ((rd_T35 t252 0).f2.f3)) ∧ w'.cell? ⟨ad268.block, ad268.off + 6, none⟩ = some (.string ((rd_T35 t252 0).f3)) ∧ w'.cell? ⟨ad268.block, ad268.off + 7, none⟩ = some (.int .i64 ((rd_T35 t252 0).f4)) ∧ w'.cell? ⟨ad268.block, ad268.off + 8, none⟩ = some (.int .i64 ((rd_T35 t252 0).f5))) (ds := []) #[false, false, false, false, false, false, false, false, false, false, false, false, false, false, false, false, false, false, false, false, false, false, false, false, false, false, false, false, false, false, false, false, false, false, false, false, false, false, false, false, false, false, false, false, false, false, false, false, false, false, false, false, false, false] (by kernel_rfl) rfl rfl ⟨hx257_0, hx257_1, hx257_2, hx257_3, hx257_4, hx257_5, hx257_6, hx257_7, hx257_8, hx262_0, hx262_1, hx262_2, hx262_3, hx262_4, hx262_5, hx262_6, hx262_7, hx262_8, hx263_0, hx263_1, hx263_2, hx263_3, hx263_4, hx263_5, hx263_6, hx263_7, hx263_8, hx268_0, hx268_1, hx268_2, hx268_3, hx268_4, hx268_5, hx268_6, hx268_7, hx268_8⟩ (fun hHeld => ?_); refine with_tabW scantlinglaw03_LexClass.tab12 scantlinglaw03_LexClass.bits12 (fun HT_ HW_ => ?_)
        generalize wc.drew = w109 at HO_8 HO_11 HO_14 HO_17 HB hx257_0 hx257_1 hx257_2 hx257_3 hx257_4 hx257_5 hx257_6 hx257_7 hx257_8 hx262_0 hx262_1 hx262_2 hx262_3 hx262_4 hx262_5 hx262_6 hx262_7 hx262_8 hx263_0 hx263_1 hx263_2 hx263_3 hx263_4 hx263_5 hx263_6 hx263_7 hx263_8 hx268_0 hx268_1 hx268_2 hx268_3 hx268_4 hx268_5 hx268_6 hx268_7 hx268_8 hHeld ⊢
        refine pure_ (i := 0) (N := some 124) (v := ?_) (a' := ?_) #[true, false, false, false, false, false, false, false, false, false, false, false, false, false, false, false, false, false, false, false, false, false, false, false, false, false, false, false, false, false, false, false, false, false, false, false, false, false, false, false, false, false, false, false, false, false, false, false, false, false, false, false, false, false] rfl rfl (any_of HT_.out (by kernel_rfl)) (fun _ _ _ h => h) (Or.inl ⟨by rfl, ?_⟩) ?_ ?_
        rotate_left
        · intro w'
          go_simp
          with_reducible rfl
        rotate_left
        · simp only [Act.put, List.setIfInBounds_toArray, List.set_cons_zero, List.set_cons_succ, i64_w, i32_w]
          rfl
        refine pure_ (i := 1) (N := some 125) (v := ?_) (a' := ?_) #[true, true, false, false, false, false, false, false, false, false, false, false, false, false, false, false, false, false, false, false, false, false, false, false, false, false, false, false, false, false, false, false, false, false, false, false, false, false, false, false, false, false, false, false, false, false, false, false, false, false, false, false, false, false] rfl rfl (any_of HT_.out (by kernel_rfl)) (fun _ _ _ h => h) (Or.inl ⟨by rfl, ?_⟩) ?_ ?_
        rotate_left
        · intro w'
          go_simp
          with_reducible rfl
        rotate_left
        · simp only [Act.put, List.setIfInBounds_toArray, List.set_cons_zero, List.set_cons_succ, i64_w, i32_w]
          rfl
        refine pure_ (i := 2) (N := some 126) (v := ?_) (a' := ?_) #[true, true, true, false, false, false, false, false, false, false, false, false, false, false, false, false, false, false, false, false, false, false, false, false, false, false, false, false, false, false, false, false, false, false, false, false, false, false, false, false, false, false, false, false, false, false, false, false, false, false, false, false, false, false] rfl rfl (any_of HT_.out (by kernel_rfl)) (fun _ _ _ h => h) (Or.inl ⟨by rfl, ?_⟩) ?_ ?_
        rotate_left
        · intro w'
          go_simp
          with_reducible rfl
        rotate_left
        · simp only [Act.put, List.setIfInBounds_toArray, List.set_cons_zero, List.set_cons_succ, i64_w, i32_w]
          rfl
        refine pure_ (i := 4) (N := some 128) (v := ?_) (a' := ?_) #[true, true, true, false, true, false, false, false, false, false, false, false, false, false, false, false, false, false, false, false, false, false, false, false, false, false, false, false, false, false, false, false, false, false, false, false, false, false, false, false, false, false, false, false, false, false, false, false, false, false, false, false, false, false] rfl rfl (any_of HT_.out (by kernel_rfl)) (fun _ _ _ h => h) (Or.inl ⟨by rfl, ?_⟩) ?_ ?_
        rotate_left
        · intro w'
          go_simp
          with_reducible rfl
        rotate_left
        · simp only [Act.put, List.setIfInBounds_toArray, List.set_cons_zero, List.set_cons_succ, i64_w, i32_w]
          rfl
        refine pure_ (i := 5) (N := some 129) (v := ?_) (a' := ?_) #[true, true, true, false, true, true, false, false, false, false, false, false, false, false, false, false, false, false, false, false, false, false, false, false, false, false, false, false, false, false, false, false, false, false, false, false, false, false, false, false, false, false, false, false, false, false, false, false, false, false, false, false, false, false] rfl rfl (any_of HT_.out (by kernel_rfl)) (fun _ _ _ h => h) (Or.inl ⟨by rfl, ?_⟩) ?_ ?_
        rotate_left
        · intro w'
          go_simp
          with_reducible rfl
        rotate_left
        · simp only [Act.put, List.setIfInBounds_toArray, List.set_cons_zero, List.set_cons_succ, i64_w, i32_w]
          rfl
        refine take_ (i := 3) (N := some 127) (v := ?_) (a' := ?_) #[true, true, true, true, true, true, false, false, false, false, false, false, false, false, false, false, false, false, false, false, false, false, false, false, false, false, false, false, false, false, false, false, false, false, false, false, false, false, false, false, false, false, false, false, false, false, false, false, false, false, false, false, false, false] rfl rfl (take_ofW HT_.out HW_.out (by kernel_rfl)) (fun _ _ _ h => h) (Or.inl ⟨by rfl, ?_⟩) hHeld ?_ ?_
        rotate_left
        · rintro w' ⟨s0, s1, s2, s3, s4, s5, s6, s7, s8, s9, s10, s11, s12, s13, s14, s15, s16, s17, s18, s19, s20, s21, s22, s23, s24, s25, s26, s27, s28, s29, s30, s31, s32, s33, s34, s35⟩
          go_simp
          with_reducible rfl
        rotate_left
        · simp only [Act.put, List.setIfInBounds_toArray, List.set_cons_zero, List.set_cons_succ, i64_w, i32_w]
          rfl
        refine one_ (i := 6) (N := some 130) #[true, true, true, true, true, true, true, false, false, false, false, false, false, false, false, false, false, false, false, false, false, false, false, false, false, false, false, false, false, false, false, false, false, false, false, false, false, false, false, false, false, false, false, false, false, false, false, false, false, false, false, false, false, false] rfl rfl (one_of HT_.out (by kernel_rfl)) (by decide) (fun K hK => ?_)
        refine goes_ Tryd.func17 (by kernel_rfl) rfl #[.int .u8 a0, .int .u8 a0] (by rfl) rfl rfl (by (try simp only [List.map_toArray, List.map_cons, List.map_nil]); first | done | rfl | (simp only [List.length_drop, List.length_take]; rfl)) ?_
        with_reducible refine (scantlingref01_Row.calls kj34 a0 a0 t258 t259 t260 t261 _ A74.out).mono ?_
        rintro e w111 ⟨rfl, hb⟩
        have HS_ := hsA hb hHeld fun h => hsA hb h fun h => hsA hb h fun h => hsA hb h fun h => hsA hb h fun h => hsA hb h fun h => hsA hb h fun h => hsA hb h fun h => hsA hb h fun h => hsA hb h fun h => hsA hb h fun h => hsA hb h fun h => hsA hb h fun h => hsA hb h fun h => hsA hb h fun h => hsA hb h fun h => hsA hb h fun h => hsA hb h fun h => hsA hb h fun h => hsA hb h fun h => hsA hb h fun h => hsA hb h fun h => hsA hb h fun h => hsA hb h fun h => hsA hb h fun h => hsA hb h fun h => hsA hb h fun h => hsA hb h fun h => hsA hb h fun h => hsA hb h fun h => hsA hb h fun h => hsA hb h fun h => hsA hb h fun h => hsA hb h fun h => hsA hb h fun h => hsc hb h
        refine ⟨_, rfl, ?_⟩
        have n0_ := Aside0.mk (Kd.R_below (by (with_reducible repeat (first | apply Kd.R_alloc | apply Kd.R_drewN | apply Kd.R_drew)); exact HO_8.out) hb)
        have n1_ := Aside0.mk (Kd.R_below (by (with_reducible repeat (first | apply Kd.R_alloc | apply Kd.R_drewN | apply Kd.R_drew)); exact HO_11.out) hb)
        have n2_ := Aside0.mk (Kd.R_below (by (with_reducible repeat (first | apply Kd.R_alloc | apply Kd.R_drewN | apply Kd.R_drew)); exact HO_14.out) hb)
        have n3_ := Aside0.mk (Kd.R_below (by (with_reducible repeat (first | apply Kd.R_alloc | apply Kd.R_drewN | apply Kd.R_drew)); exact HO_17.out) hb)
        have n4_ := Aside0.mk (below_step (belx HB) hb)
        clear HO_8
        clear HO_11
        clear HO_14
        clear HO_17
        clear HB
        have HO_8 := n0_
        have HO_11 := n1_
        have HO_14 := n2_
        have HO_17 := n3_
        have HB := n4_
        clear n0_ n1_ n2_ n3_ n4_
        (try clear hb)
        (try clear hb2)
        (try clear hk)
        (try clear hi)
        obtain ⟨Ao112, co112, eo112⟩ := Kd.R_slice HO_11.out
        (first | subst eo112 | (injection eo112 with f1_ f2_ f3_; have f4_ := f1_.symm; have f5_ := f3_.symm; clear f1_ f2_ f3_; subst f4_; subst f5_))
        refine hK.out _ _ HS_ (fun hHeld => ?_)
        clear hK K
        refine norm_ (a' := ?_) ?_ ?_
        rotate_left
        · show Act.put _ (some 130) _ = _
          simp only [Act.put, List.setIfInBounds_toArray, List.set_cons_zero, List.set_cons_succ, i64_w, i32_w]
          rfl
        refine pure_ (i := 7) (N := some 131) (v := ?_) (a' := ?_) #[true, true, true, true, true, true, true, true, false, false, false, false, false, false, false, false, false, false, false, false, false, false, false, false, false, false, false, false, false, false, false, false, false, false, false, false, false, false, false, false, false, false, false, false, false, false, false, false, false, false, false, false, false, false] rfl rfl (any_of HT_.out (by kernel_rfl)) (fun _ _ _ h => h) (Or.inl ⟨by rfl, ?_⟩) ?_ ?_
        rotate_left
        · intro w'
          go_simp
          with_reducible rfl
        rotate_left
        · simp only [Act.put, List.setIfInBounds_toArray, List.set_cons_zero, List.set_cons_succ, i64_w, i32_w]
          rfl
        refine pure_ (i := 8) (N := some 132) (v := ?_) (a' := ?_) #[true, true, true, true, true, true, true, true, true, false, false, false, false, false, false, false, false, false, false, false, false, false, false, false, false, false, false, false, false, false, false, false, false, false, false, false, false, false, false, false, false, false, false, false, false, false, false, false, false, false, false, false, false, false] rfl rfl (any_of HT_.out (by kernel_rfl)) (fun _ _ _ h => h) (Or.inl ⟨by rfl, ?_⟩) ?_ ?_
        rotate_left
        · intro w'
          go_simp
          with_reducible rfl
        rotate_left
        · simp only [Act.put, List.setIfInBounds_toArray, List.set_cons_zero, List.set_cons_succ, i64_w, i32_w]
          rfl
        refine pure_ (i := 9) (N := some 133) (v := ?_) (a' := ?_) #[true, true, true, true, true, true, true, true, true, true, false, false, false, false, false, false, false, false, false, false, false, false, false, false, false, false, false, false, false, false, false, false, false, false, false, false, false, false, false, false, false, false, false, false, false, false, false, false, false, false, false, false, false, false] rfl rfl (any_of HT_.out (by kernel_rfl)) (fun _ _ _ h => h) (Or.inl ⟨by rfl, ?_⟩) ?_ ?_
        rotate_left
        · intro w'
          go_simp
          with_reducible rfl
        rotate_left
        · simp only [Act.put, List.setIfInBounds_toArray, List.set_cons_zero, List.set_cons_succ, i64_w, i32_w]
          rfl
        refine pure_ (i := 10) (N := some 134) (v := ?_) (a' := ?_) #[true, true, true, true, true, true, true, true, true, true, true, false, false, false, false, false, false, false, false, false, false, false, false, false, false, false, false, false, false, false, false, false, false, false, false, false, false, false, false, false, false, false, false, false, false, false, false, false, false, false, false, false, false, false] rfl rfl (any_of HT_.out (by kernel_rfl)) (fun _ _ _ h => h) (Or.inl ⟨by rfl, ?_⟩) ?_ ?_
        rotate_left
        · intro w'
          go_simp
          with_reducible rfl
        rotate_left
        · simp only [Act.put, List.setIfInBounds_toArray, List.set_cons_zero, List.set_cons_succ, i64_w, i32_w]
          rfl
        refine pure_ (i := 11) (N := some 135) (v := ?_) (a' := ?_) #[true, true, true, true, true, true, true, true, true, true, true, true, false, false, false, false, false, false, false, false, false, false, false, false, false, false, false, false, false, false, false, false, false, false, false, false, false, false, false, false, false, false, false, false, false, false, false, false, false, false, false, false, false, false] rfl rfl (any_of HT_.out (by kernel_rfl)) (fun _ _ _ h => h) (Or.inl ⟨by rfl, ?_⟩) ?_ ?_
        rotate_left
        · intro w'
          go_simp
          with_reducible rfl
        rotate_left
        · simp only [Act.put, List.setIfInBounds_toArray, List.set_cons_zero, List.set_cons_succ, i64_w, i32_w]
          rfl
        refine pure_ (i := 13) (N := some 137) (v := ?_) (a' := ?_) #[true, true, true, true, true, true, true, true, true, true, true, true, false, true, false, false, false, false, false, false, false, false, false, false, false, false, false, false, false, false, false, false, false, false, false, false, false, false, false, false, false, false, false, false, false, false, false, false, false, false, false, false, false, false] rfl rfl (any_of HT_.out (by kernel_rfl)) (fun _ _ _ h => h) (Or.inl ⟨by rfl, ?_⟩) ?_ ?_
        rotate_left
        · intro w'
          go_simp
          with_reducible rfl
        rotate_left
        · simp only [Act.put, List.setIfInBounds_toArray, List.set_cons_zero, List.set_cons_succ, i64_w, i32_w]
          rfl
        refine pure_ (i := 14) (N := some 138) (v := ?_) (a' := ?_) #[true, true, true, true, true, true, true, true, true, true, true, true, false, true, true, false, false, false, false, false, false, false, false, false, false, false, false, false, false, false, false, false, false, false, false, false, false, false, false, false, false, false, false, false, false, false, false, false, false, false, false, false, false, false] rfl rfl (any_of HT_.out (by kernel_rfl)) (fun _ _ _ h => h) (Or.inl ⟨by rfl, ?_⟩) ?_ ?_
        rotate_left
        · intro w'
          go_simp
          with_reducible rfl
        rotate_left
        · simp only [Act.put, List.setIfInBounds_toArray, List.set_cons_zero, List.set_cons_succ, i64_w, i32_w]
          rfl
        refine pure_ (i := 15) (N := some 139) (v := ?_) (a' := ?_) #[true, true, true, true, true, true, true, true, true, true, true, true, false, true, true, true, false, false, false, false, false, false, false, false, false, false, false, false, false, false, false, false, false, false, false, false, false, false, false, false, false, false, false, false, false, false, false, false, false, false, false, false, false, false] rfl rfl (any_of HT_.out (by kernel_rfl)) (fun _ _ _ h => h) (Or.inl ⟨by rfl, ?_⟩) ?_ ?_
        rotate_left
        · intro w'
          go_simp
          with_reducible rfl
        rotate_left
        · simp only [Act.put, List.setIfInBounds_toArray, List.set_cons_zero, List.set_cons_succ, i64_w, i32_w]
          rfl
        refine take_ (i := 12) (N := some 136) (v := ?_) (a' := ?_) #[true, true, true, true, true, true, true, true, true, true, true, true, true, true, true, true, false, false, false, false, false, false, false, false, false, false, false, false, false, false, false, false, false, false, false, false, false, false, false, false, false, false, false, false, false, false, false, false, false, false, false, false, false, false] rfl rfl (take_ofW HT_.out HW_.out (by kernel_rfl)) (fun _ _ _ h => h) (Or.inl ⟨by rfl, ?_⟩) hHeld ?_ ?_
        rotate_left
        · rintro w' ⟨s0, s1, s2, s3, s4, s5, s6, s7, s8, s9, s10, s11, s12, s13, s14, s15, s16, s17, s18, s19, s20, s21, s22, s23, s24, s25, s26, s27, s28, s29, s30, s31, s32, s33, s34, s35⟩
          go_simp
          with_reducible rfl
        rotate_left
        · simp only [Act.put, List.setIfInBounds_toArray, List.set_cons_zero, List.set_cons_succ, i64_w, i32_w]
          rfl
        refine take_ (i := 16) (N := some 140) (v := ?_) (a' := ?_) #[true, true, true, true, true, true, true, true, true, true, true, true, true, true, true, true, true, false, false, false, false, false, false, false, false, false, false, false, false, false, false, false, false, false, false, false, false, false, false, false, false, false, false, false, false, false, false, false, false, false, false, false, false, false] rfl rfl (take_ofW HT_.out HW_.out (by kernel_rfl)) (fun _ _ _ h => h) (Or.inl ⟨by rfl, ?_⟩) hHeld ?_ ?_
        rotate_left
        · rintro w' ⟨s0, s1, s2, s3, s4, s5, s6, s7, s8, s9, s10, s11, s12, s13, s14, s15, s16, s17, s18, s19, s20, s21, s22, s23, s24, s25, s26, s27, s28, s29, s30, s31, s32, s33, s34, s35⟩
          go_simp
          with_reducible rfl
        rotate_left
        · simp only [Act.put, List.setIfInBounds_toArray, List.set_cons_zero, List.set_cons_succ, i64_w, i32_w]
          rfl
        refine one_ (i := 17) (N := some 141) #[true, true, true, true, true, true, true, true, true, true, true, true, true, true, true, true, true, true, false, false, false, false, false, false, false, false, false, false, false, false, false, false, false, false, false, false, false, false, false, false, false, false, false, false, false, false, false, false, false, false, false, false, false, false] rfl rfl (one_of HT_.out (by kernel_rfl)) (by decide) (fun K hK => ?_)
        refine goes_ Tryd.func18 (by kernel_rfl) rfl #[.agg #[.int .u64 ((rd_T35 t237 0).f2.f0), .int .u64 ((rd_T35 t237 0).f2.f1), .int .u64 ((rd_T35 t237 0).f2.f2), .int .u64 ((rd_T35 t237 0).f2.f3)]] (by rfl) rfl rfl (by (try simp only [List.map_toArray, List.map_cons, List.map_nil]); first | done | rfl | (simp only [List.length_drop, List.length_take]; rfl)) ?_
        with_reducible refine (scantlingref01_Not.calls kj34 ((rd_T35 t237 0).f2.f0) ((rd_T35 t237 0).f2.f1) ((rd_T35 t237 0).f2.f2) ((rd_T35 t237 0).f2.f3) t264 t265 t266 t267 _ A77.out).mono ?_
        rintro e w113 ⟨rfl, hb⟩
        have HS_ := hsA hb hHeld fun h => hsA hb h fun h => hsA hb h fun h => hsA hb h fun h => hsA hb h fun h => hsA hb h fun h => hsA hb h fun h => hsA hb h fun h => hsA hb h fun h => hsA hb h fun h => hsA hb h fun h => hsA hb h fun h => hsA hb h fun h => hsA hb h fun h => hsA hb h fun h => hsA hb h fun h => hsA hb h fun h => hsA hb h fun h => hsA hb h fun h => hsA hb h fun h => hsA hb h fun h => hsA hb h fun h => hsA hb h fun h => hsA hb h fun h => hsA hb h fun h => hsA hb h fun h => hsA hb h fun h => hsA hb h fun h => hsA hb h fun h => hsA hb h fun h => hsA hb h fun h => hsA hb h fun h => hsA hb h fun h => hsA hb h fun h => hsA hb h fun h => hsc hb h
        refine ⟨_, rfl, ?_⟩
        have n0_ := Aside0.mk (Kd.R_below (by (with_reducible repeat (first | apply Kd.R_alloc | apply Kd.R_drewN | apply Kd.R_drew)); exact HO_8.out) hb)
        have n1_ := Aside0.mk (Kd.R_below (by (with_reducible repeat (first | apply Kd.R_alloc | apply Kd.R_drewN | apply Kd.R_drew)); exact HO_11.out) hb)
        have n2_ := Aside0.mk (Kd.R_below (by (with_reducible repeat (first | apply Kd.R_alloc | apply Kd.R_drewN | apply Kd.R_drew)); exact HO_14.out) hb)
        have n3_ := Aside0.mk (Kd.R_below (by (with_reducible repeat (first | apply Kd.R_alloc | apply Kd.R_drewN | apply Kd.R_drew)); exact HO_17.out) hb)
        have n4_ := Aside0.mk (below_step (belx HB) hb)
        clear HO_8
        clear HO_11
        clear HO_14
        clear HO_17
        clear HB
        have HO_8 := n0_
        have HO_11 := n1_
        have HO_14 := n2_
        have HO_17 := n3_
        have HB := n4_
        clear n0_ n1_ n2_ n3_ n4_
        (try clear hb)
        (try clear hb2)
        (try clear hk)
        (try clear hi)
        obtain ⟨Ao114, co114, eo114⟩ := Kd.R_slice HO_17.out
        (first | subst eo114 | (injection eo114 with f1_ f2_ f3_; have f4_ := f1_.symm; have f5_ := f3_.symm; clear f1_ f2_ f3_; subst f4_; subst f5_))
        refine hK.out _ _ HS_ (fun hHeld => ?_)
        clear hK K
        refine norm_ (a' := ?_) ?_ ?_
        rotate_left
        · show Act.put _ (some 141) _ = _
          simp only [Act.put, List.setIfInBounds_toArray, List.set_cons_zero, List.set_cons_succ, i64_w, i32_w]
          rfl
        refine pure_ (i := 18) (N := some 142) (v := ?_) (a' := ?_) #[true, true, true, true, true, true, true, true, true, true, true, true, true, true, true, true, true, true, true, false, false, false, false, false, false, false, false, false, false, false, false, false, false, false, false, false, false, false, false, false, false, false, false, false, false, false, false, false, false, false, false, false, false, false] rfl rfl (any_of HT_.out (by kernel_rfl)) (fun _ _ _ h => h) (Or.inl ⟨by rfl, ?_⟩) ?_ ?_
        rotate_left
        · intro w'
          go_simp
          with_reducible rfl
        rotate_left
        · simp only [Act.put, List.setIfInBounds_toArray, List.set_cons_zero, List.set_cons_succ, i64_w, i32_w]
          rfl
        refine pure_ (i := 19) (N := some 143) (v := ?_) (a' := ?_) #[true, true, true, true, true, true, true, true, true, true, true, true, true, true, true, true, true, true, true, true, false, false, false, false, false, false, false, false, false, false, false, false, false, false, false, false, false, false, false, false, false, false, false, false, false, false, false, false, false, false, false, false, false, false] rfl rfl (any_of HT_.out (by kernel_rfl)) (fun _ _ _ h => h) (Or.inl ⟨by rfl, ?_⟩) ?_ ?_
        rotate_left
        · intro w'
          go_simp
          with_reducible rfl
        rotate_left
        · simp only [Act.put, List.setIfInBounds_toArray, List.set_cons_zero, List.set_cons_succ, i64_w, i32_w]
          rfl
        refine pure_ (i := 20) (N := some 144) (v := ?_) (a' := ?_) #[true, true, true, true, true, true, true, true, true, true, true, true, true, true, true, true, true, true, true, true, true, false, false, false, false, false, false, false, false, false, false, false, false, false, false, false, false, false, false, false, false, false, false, false, false, false, false, false, false, false, false, false, false, false] rfl rfl (any_of HT_.out (by kernel_rfl)) (fun _ _ _ h => h) (Or.inl ⟨by rfl, ?_⟩) ?_ ?_
        rotate_left
        · intro w'
          go_simp
          with_reducible rfl
        rotate_left
        · simp only [Act.put, List.setIfInBounds_toArray, List.set_cons_zero, List.set_cons_succ, i64_w, i32_w]
          rfl
        refine pure_ (i := 21) (N := some 145) (v := ?_) (a' := ?_) #[true, true, true, true, true, true, true, true, true, true, true, true, true, true, true, true, true, true, true, true, true, true, false, false, false, false, false, false, false, false, false, false, false, false, false, false, false, false, false, false, false, false, false, false, false, false, false, false, false, false, false, false, false, false] rfl rfl (any_of HT_.out (by kernel_rfl)) (fun _ _ _ h => h) (Or.inl ⟨by rfl, ?_⟩) ?_ ?_
        rotate_left
        · intro w'
          go_simp
          with_reducible rfl
        rotate_left
        · simp only [Act.put, List.setIfInBounds_toArray, List.set_cons_zero, List.set_cons_succ, i64_w, i32_w]
          rfl
        refine pure_ (i := 22) (N := some 146) (v := ?_) (a' := ?_) #[true, true, true, true, true, true, true, true, true, true, true, true, true, true, true, true, true, true, true, true, true, true, true, false, false, false, false, false, false, false, false, false, false, false, false, false, false, false, false, false, false, false, false, false, false, false, false, false, false, false, false, false, false, false] rfl rfl (any_of HT_.out (by kernel_rfl)) (fun _ _ _ h => h) (Or.inl ⟨by rfl, ?_⟩) ?_ ?_
        rotate_left
        · intro w'
          go_simp
          with_reducible rfl
        rotate_left
        · simp only [Act.put, List.setIfInBounds_toArray, List.set_cons_zero, List.set_cons_succ, i64_w, i32_w]
          rfl
        refine pure_ (i := 23) (N := some 147) (v := ?_) (a' := ?_) #[true, true, true, true, true, true, true, true, true, true, true, true, true, true, true, true, true, true, true, true, true, true, true, true, false, false, false, false, false, false, false, false, false, false, false, false, false, false, false, false, false, false, false, false, false, false, false, false, false, false, false, false, false, false] rfl rfl (any_of HT_.out (by kernel_rfl)) (fun _ _ _ h => h) (Or.inl ⟨by rfl, ?_⟩) ?_ ?_
        rotate_left
        · intro w'
          go_simp
          with_reducible rfl
        rotate_left
        · simp only [Act.put, List.setIfInBounds_toArray, List.set_cons_zero, List.set_cons_succ, i64_w, i32_w]
          rfl
        refine pure_ (i := 25) (N := some 149) (v := ?_) (a' := ?_) #[true, true, true, true, true, true, true, true, true, true, true, true, true, true, true, true, true, true, true, true, true, true, true, true, false, true, false, false, false, false, false, false, false, false, false, false, false, false, false, false, false, false, false, false, false, false, false, false, false, false, false, false, false, false] rfl rfl (any_of HT_.out (by kernel_rfl)) (fun _ _ _ h => h) (Or.inl ⟨by rfl, ?_⟩) ?_ ?_
        rotate_left
        · intro w'
          go_simp
          with_reducible rfl
        rotate_left
        · simp only [Act.put, List.setIfInBounds_toArray, List.set_cons_zero, List.set_cons_succ, i64_w, i32_w]
          rfl
        refine pure_ (i := 26) (N := some 150) (v := ?_) (a' := ?_) #[true, true, true, true, true, true, true, true, true, true, true, true, true, true, true, true, true, true, true, true, true, true, true, true, false, true, true, false, false, false, false, false, false, false, false, false, false, false, false, false, false, false, false, false, false, false, false, false, false, false, false, false, false, false] rfl rfl (any_of HT_.out (by kernel_rfl)) (fun _ _ _ h => h) (Or.inl ⟨by rfl, ?_⟩) ?_ ?_
        rotate_left
        · intro w'
          go_simp
          with_reducible rfl
        rotate_left
        · simp only [Act.put, List.setIfInBounds_toArray, List.set_cons_zero, List.set_cons_succ, i64_w, i32_w]
          rfl
        refine pure_ (i := 28) (N := some 152) (v := ?_) (a' := ?_) #[true, true, true, true, true, true, true, true, true, true, true, true, true, true, true, true, true, true, true, true, true, true, true, true, false, true, true, false, true, false, false, false, false, false, false, false, false, false, false, false, false, false, false, false, false, false, false, false, false, false, false, false, false, false] rfl rfl (any_of HT_.out (by kernel_rfl)) (fun _ _ _ h => h) (Or.inl ⟨by rfl, ?_⟩) ?_ ?_
        rotate_left
        · intro w'
          go_simp
          with_reducible rfl
        rotate_left
        · simp only [Act.put, List.setIfInBounds_toArray, List.set_cons_zero, List.set_cons_succ, i64_w, i32_w]
          rfl
        refine pure_ (i := 29) (N := some 153) (v := ?_) (a' := ?_) #[true, true, true, true, true, true, true, true, true, true, true, true, true, true, true, true, true, true, true, true, true, true, true, true, false, true, true, false, true, true, false, false, false, false, false, false, false, false, false, false, false, false, false, false, false, false, false, false, false, false, false, false, false, false] rfl rfl (any_of HT_.out (by kernel_rfl)) (fun _ _ _ h => h) (Or.inl ⟨by rfl, ?_⟩) ?_ ?_
        rotate_left
        · intro w'
          go_simp
          with_reducible rfl
        rotate_left
        · simp only [Act.put, List.setIfInBounds_toArray, List.set_cons_zero, List.set_cons_succ, i64_w, i32_w]
          rfl
        refine take_ (i := 24) (N := some 148) (v := ?_) (a' := ?_) #[true, true, true, true, true, true, true, true, true, true, true, true, true, true, true, true, true, true, true, true, true, true, true, true, true, true, true, false, true, true, false, false, false, false, false, false, false, false, false, false, false, false, false, false, false, false, false, false, false, false, false, false, false, false] rfl rfl (take_ofW HT_.out HW_.out (by kernel_rfl)) (fun _ _ _ h => h) (Or.inl ⟨by rfl, ?_⟩) hHeld ?_ ?_
        rotate_left
        · rintro w' ⟨s0, s1, s2, s3, s4, s5, s6, s7, s8, s9, s10, s11, s12, s13, s14, s15, s16, s17, s18, s19, s20, s21, s22, s23, s24, s25, s26, s27, s28, s29, s30, s31, s32, s33, s34, s35⟩
          go_simp
          with_reducible rfl
        rotate_left
        · simp only [Act.put, List.setIfInBounds_toArray, List.set_cons_zero, List.set_cons_succ, i64_w, i32_w]
          rfl
        refine one_ (i := 27) (N := some 151) #[true, true, true, true, true, true, true, true, true, true, true, true, true, true, true, true, true, true, true, true, true, true, true, true, true, true, true, true, true, true, false, false, false, false, false, false, false, false, false, false, false, false, false, false, false, false, false, false, false, false, false, false, false, false] rfl rfl (one_of HT_.out (by kernel_rfl)) (by decide) (fun K hK => ?_)
        refine goes_ Tryd.func17 (by kernel_rfl) rfl #[.int .u8 a0, .int .u8 a0] (by rfl) rfl rfl (by (try simp only [List.map_toArray, List.map_cons, List.map_nil]); first | done | rfl | (simp only [List.length_drop, List.length_take]; rfl)) ?_
        with_reducible refine (scantlingref01_Row.calls kj34 a0 a0 t269 t270 t271 t272 _ A80.out).mono ?_
        rintro e w115 ⟨rfl, hb⟩
        have HS_ := hsA hb hHeld fun h => hsA hb h fun h => hsA hb h fun h => hsA hb h fun h => hsA hb h fun h => hsA hb h fun h => hsA hb h fun h => hsA hb h fun h => hsA hb h fun h => hsA hb h fun h => hsA hb h fun h => hsA hb h fun h => hsA hb h fun h => hsA hb h fun h => hsA hb h fun h => hsA hb h fun h => hsA hb h fun h => hsA hb h fun h => hsA hb h fun h => hsA hb h fun h => hsA hb h fun h => hsA hb h fun h => hsA hb h fun h => hsA hb h fun h => hsA hb h fun h => hsA hb h fun h => hsA hb h fun h => hsA hb h fun h => hsA hb h fun h => hsA hb h fun h => hsA hb h fun h => hsA hb h fun h => hsA hb h fun h => hsA hb h fun h => hsA hb h fun h => hsc hb h
        refine ⟨_, rfl, ?_⟩
        have n0_ := Aside0.mk (Kd.R_below (by (with_reducible repeat (first | apply Kd.R_alloc | apply Kd.R_drewN | apply Kd.R_drew)); exact HO_8.out) hb)
        have n1_ := Aside0.mk (Kd.R_below (by (with_reducible repeat (first | apply Kd.R_alloc | apply Kd.R_drewN | apply Kd.R_drew)); exact HO_11.out) hb)
        have n2_ := Aside0.mk (Kd.R_below (by (with_reducible repeat (first | apply Kd.R_alloc | apply Kd.R_drewN | apply Kd.R_drew)); exact HO_14.out) hb)
        have n3_ := Aside0.mk (Kd.R_below (by (with_reducible repeat (first | apply Kd.R_alloc | apply Kd.R_drewN | apply Kd.R_drew)); exact HO_17.out) hb)
        have n4_ := Aside0.mk (below_step (belx HB) hb)
        clear HO_8
        clear HO_11
        clear HO_14
        clear HO_17
        clear HB
        have HO_8 := n0_
        have HO_11 := n1_
        have HO_14 := n2_
        have HO_17 := n3_
        have HB := n4_
        clear n0_ n1_ n2_ n3_ n4_
        (try clear hb)
        (try clear hb2)
        (try clear hk)
        (try clear hi)
        refine hK.out _ _ HS_ (fun hHeld => ?_)
        clear hK K
        refine norm_ (a' := ?_) ?_ ?_
        rotate_left
        · show Act.put _ (some 151) _ = _
          simp only [Act.put, List.setIfInBounds_toArray, List.set_cons_zero, List.set_cons_succ, i64_w, i32_w]
          rfl
        refine one_ (i := 30) (N := some 154) #[true, true, true, true, true, true, true, true, true, true, true, true, true, true, true, true, true, true, true, true, true, true, true, true, true, true, true, true, true, true, true, false, false, false, false, false, false, false, false, false, false, false, false, false, false, false, false, false, false, false, false, false, false, false] rfl rfl (one_of HT_.out (by kernel_rfl)) (by decide) (fun K hK => ?_)
        refine goes_ Tryd.func17 (by kernel_rfl) rfl #[.int .u8 a1, .int .u8 a1] (by rfl) rfl rfl (by (try simp only [List.map_toArray, List.map_cons, List.map_nil]); first | done | rfl | (simp only [List.length_drop, List.length_take]; rfl)) ?_
        with_reducible refine (scantlingref01_Row.calls kj34 a1 a1 t273 t274 t275 t276 _ A81.out).mono ?_
        rintro e w116 ⟨rfl, hb⟩
        have HS_ := hsA hb hHeld fun h => hsA hb h fun h => hsA hb h fun h => hsA hb h fun h => hsA hb h fun h => hsA hb h fun h => hsA hb h fun h => hsA hb h fun h => hsA hb h fun h => hsA hb h fun h => hsA hb h fun h => hsA hb h fun h => hsA hb h fun h => hsA hb h fun h => hsA hb h fun h => hsA hb h fun h => hsA hb h fun h => hsA hb h fun h => hsA hb h fun h => hsA hb h fun h => hsA hb h fun h => hsA hb h fun h => hsA hb h fun h => hsA hb h fun h => hsA hb h fun h => hsA hb h fun h => hsA hb h fun h => hsA hb h fun h => hsA hb h fun h => hsA hb h fun h => hsA hb h fun h => hsA hb h fun h => hsA hb h fun h => hsA hb h fun h => hsA hb h fun h => hsc hb h
        refine ⟨_, rfl, ?_⟩
        have n0_ := Aside0.mk (Kd.R_below (by (with_reducible repeat (first | apply Kd.R_alloc | apply Kd.R_drewN | apply Kd.R_drew)); exact HO_8.out) hb)
        have n1_ := Aside0.mk (Kd.R_below (by (with_reducible repeat (first | apply Kd.R_alloc | apply Kd.R_drewN | apply Kd.R_drew)); exact HO_11.out) hb)
        have n2_ := Aside0.mk (Kd.R_below (by (with_reducible repeat (first | apply Kd.R_alloc | apply Kd.R_drewN | apply Kd.R_drew)); exact HO_14.out) hb)
        have n3_ := Aside0.mk (Kd.R_below (by (with_reducible repeat (first | apply Kd.R_alloc | apply Kd.R_drewN | apply Kd.R_drew)); exact HO_17.out) hb)
        have n4_ := Aside0.mk (below_step (belx HB) hb)
        clear HO_8
        clear HO_11
        clear HO_14
        clear HO_17
        clear HB
        have HO_8 := n0_
        have HO_11 := n1_
        have HO_14 := n2_
        have HO_17 := n3_
        have HB := n4_
        clear n0_ n1_ n2_ n3_ n4_
        (try clear hb)
        (try clear hb2)
        (try clear hk)
        (try clear hi)
        refine hK.out _ _ HS_ (fun hHeld => ?_)
        clear hK K
        refine norm_ (a' := ?_) ?_ ?_
        rotate_left
        · show Act.put _ (some 154) _ = _
          simp only [Act.put, List.setIfInBounds_toArray, List.set_cons_zero, List.set_cons_succ, i64_w, i32_w]
          rfl
        refine one_ (i := 31) (N := some 155) #[true, true, true, true, true, true, true, true, true, true, true, true, true, true, true, true, true, true, true, true, true, true, true, true, true, true, true, true, true, true, true, true, false, false, false, false, false, false, false, false, false, false, false, false, false, false, false, false, false, false, false, false, false, false] rfl rfl (one_of HT_.out (by kernel_rfl)) (by decide) (fun K hK => ?_)
        refine goes_ Tryd.func19 (by kernel_rfl) rfl #[.agg #[.int .u64 t269, .int .u64 t270, .int .u64 t271, .int .u64 t272], .agg #[.int .u64 t273, .int .u64 t274, .int .u64 t275, .int .u64 t276]] (by rfl) rfl rfl (by (try simp only [List.map_toArray, List.map_cons, List.map_nil]); first | done | rfl | (simp only [List.length_drop, List.length_take]; rfl)) ?_
        with_reducible refine (scantlingref01_Join.calls kj34 t269 t270 t271 t272 t273 t274 t275 t276 t277 t278 t279 t280 _ A82.out).mono ?_
        rintro e w117 ⟨rfl, hb⟩
        have HS_ := hsA hb hHeld fun h => hsA hb h fun h => hsA hb h fun h => hsA hb h fun h => hsA hb h fun h => hsA hb h fun h => hsA hb h fun h => hsA hb h fun h => hsA hb h fun h => hsA hb h fun h => hsA hb h fun h => hsA hb h fun h => hsA hb h fun h => hsA hb h fun h => hsA hb h fun h => hsA hb h fun h => hsA hb h fun h => hsA hb h fun h => hsA hb h fun h => hsA hb h fun h => hsA hb h fun h => hsA hb h fun h => hsA hb h fun h => hsA hb h fun h => hsA hb h fun h => hsA hb h fun h => hsA hb h fun h => hsA hb h fun h => hsA hb h fun h => hsA hb h fun h => hsA hb h fun h => hsA hb h fun h => hsA hb h fun h => hsA hb h fun h => hsA hb h fun h => hsc hb h
        refine ⟨_, rfl, ?_⟩
        have n0_ := Aside0.mk (Kd.R_below (by (with_reducible repeat (first | apply Kd.R_alloc | apply Kd.R_drewN | apply Kd.R_drew)); exact HO_8.out) hb)
        have n1_ := Aside0.mk (Kd.R_below (by (with_reducible repeat (first | apply Kd.R_alloc | apply Kd.R_drewN | apply Kd.R_drew)); exact HO_11.out) hb)
        have n2_ := Aside0.mk (Kd.R_below (by (with_reducible repeat (first | apply Kd.R_alloc | apply Kd.R_drewN | apply Kd.R_drew)); exact HO_14.out) hb)
        have n3_ := Aside0.mk (Kd.R_below (by (with_reducible repeat (first | apply Kd.R_alloc | apply Kd.R_drewN | apply Kd.R_drew)); exact HO_17.out) hb)
        have n4_ := Aside0.mk (below_step (belx HB) hb)
        clear HO_8
        clear HO_11
        clear HO_14
        clear HO_17
        clear HB
        have HO_8 := n0_
        have HO_11 := n1_
        have HO_14 := n2_
        have HO_17 := n3_
        have HB := n4_
        clear n0_ n1_ n2_ n3_ n4_
        (try clear hb)
        (try clear hb2)
        (try clear hk)
        (try clear hi)
        refine hK.out _ _ HS_ (fun hHeld => ?_)
        clear hK K
        refine norm_ (a' := ?_) ?_ ?_
        rotate_left
        · show Act.put _ (some 155) _ = _
          simp only [Act.put, List.setIfInBounds_toArray, List.set_cons_zero, List.set_cons_succ, i64_w, i32_w]
          rfl
        refine pure_ (i := 32) (N := some 156) (v := ?_) (a' := ?_) #[true, true, true, true, true, true, true, true, true, true, true, true, true, true, true, true, true, true, true, true, true, true, true, true, true, true, true, true, true, true, true, true, true, false, false, false, false, false, false, false, false, false, false, false, false, false, false, false, false, false, false, false, false, false] rfl rfl (any_of HT_.out (by kernel_rfl)) (fun _ _ _ h => h) (Or.inl ⟨by rfl, ?_⟩) ?_ ?_
        rotate_left
        · intro w'
          go_simp
          with_reducible rfl
        rotate_left
        · simp only [Act.put, List.setIfInBounds_toArray, List.set_cons_zero, List.set_cons_succ, i64_w, i32_w]
          rfl
        refine pure_ (i := 33) (N := some 157) (v := ?_) (a' := ?_) #[true, true, true, true, true, true, true, true, true, true, true, true, true, true, true, true, true, true, true, true, true, true, true, true, true, true, true, true, true, true, true, true, true, true, false, false, false, false, false, false, false, false, false, false, false, false, false, false, false, false, false, false, false, false] rfl rfl (any_of HT_.out (by kernel_rfl)) (fun _ _ _ h => h) (Or.inl ⟨by rfl, ?_⟩) ?_ ?_
        rotate_left
        · intro w'
          go_simp
          with_reducible rfl
        rotate_left
        · simp only [Act.put, List.setIfInBounds_toArray, List.set_cons_zero, List.set_cons_succ, i64_w, i32_w]
          rfl
        refine pure_ (i := 34) (N := some 158) (v := ?_) (a' := ?_) #[true, true, true, true, true, true, true, true, true, true, true, true, true, true, true, true, true, true, true, true, true, true, true, true, true, true, true, true, true, true, true, true, true, true, true, false, false, false, false, false, false, false, false, false, false, false, false, false, false, false, false, false, false, false] rfl rfl (any_of HT_.out (by kernel_rfl)) (fun _ _ _ h => h) (Or.inl ⟨by rfl, ?_⟩) ?_ ?_
        rotate_left
        · intro w'
          go_simp
          with_reducible rfl
        rotate_left
        · simp only [Act.put, List.setIfInBounds_toArray, List.set_cons_zero, List.set_cons_succ, i64_w, i32_w]
          rfl
        refine pure_ (i := 35) (N := some 159) (v := ?_) (a' := ?_) #[true, true, true, true, true, true, true, true, true, true, true, true, true, true, true, true, true, true, true, true, true, true, true, true, true, true, true, true, true, true, true, true, true, true, true, true, false, false, false, false, false, false, false, false, false, false, false, false, false, false, false, false, false, false] rfl rfl (any_of HT_.out (by kernel_rfl)) (fun _ _ _ h => h) (Or.inl ⟨by rfl, ?_⟩) ?_ ?_
        rotate_left
        · intro w'
          go_simp
          with_reducible rfl
        rotate_left
        · simp only [Act.put, List.setIfInBounds_toArray, List.set_cons_zero, List.set_cons_succ, i64_w, i32_w]
          rfl
        refine pure_ (i := 36) (N := some 160) (v := ?_) (a' := ?_) #[true, true, true, true, true, true, true, true, true, true, true, true, true, true, true, true, true, true, true, true, true, true, true, true, true, true, true, true, true, true, true, true, true, true, true, true, true, false, false, false, false, false, false, false, false, false, false, false, false, false, false, false, false, false] rfl rfl (any_of HT_.out (by kernel_rfl)) (fun _ _ _ h => h) (Or.inl ⟨by rfl, ?_⟩) ?_ ?_
        rotate_left
        · intro w'
          go_simp
          with_reducible rfl
        rotate_left
        · simp only [Act.put, List.setIfInBounds_toArray, List.set_cons_zero, List.set_cons_succ, i64_w, i32_w]
          rfl
        refine pure_ (i := 37) (N := some 161) (v := ?_) (a' := ?_) #[true, true, true, true, true, true, true, true, true, true, true, true, true, true, true, true, true, true, true, true, true, true, true, true, true, true, true, true, true, true, true, true, true, true, true, true, true, true, false, false, false, false, false, false, false, false, false, false, false, false, false, false, false, false] rfl rfl (any_of HT_.out (by kernel_rfl)) (fun _ _ _ h => h) (Or.inl ⟨by rfl, ?_⟩) ?_ ?_
        rotate_left
        · intro w'
          go_simp
          with_reducible rfl
        rotate_left
        · simp only [Act.put, List.setIfInBounds_toArray, List.set_cons_zero, List.set_cons_succ, i64_w, i32_w]
          rfl
        refine pure_ (i := 38) (N := some 162) (v := undef) (a' := ?_) #[true, true, true, true, true, true, true, true, true, true, true, true, true, true, true, true, true, true, true, true, true, true, true, true, true, true, true, true, true, true, true, true, true, true, true, true, true, true, true, false, false, false, false, false, false, false, false, false, false, false, false, false, false, false] rfl rfl (any_of HT_.out (by kernel_rfl)) (fun _ _ _ h => h) (Or.inr ⟨by rfl, rfl⟩) ?_ ?_
        rotate_left
        · simp only [Act.put, List.setIfInBounds_toArray, List.set_cons_zero, List.set_cons_succ, i64_w, i32_w]
          rfl
        refine pure_ (i := 39) (N := some 163) (v := undef) (a' := ?_) #[true, true, true, true, true, true, true, true, true, true, true, true, true, true, true, true, true, true, true, true, true, true, true, true, true, true, true, true, true, true, true, true, true, true, true, true, true, true, true, true, false, false, false, false, false, false, false, false, false, false, false, false, false, false] rfl rfl (any_of HT_.out (by kernel_rfl)) (fun _ _ _ h => h) (Or.inr ⟨by rfl, rfl⟩) ?_ ?_
        rotate_left
        · simp only [Act.put, List.setIfInBounds_toArray, List.set_cons_zero, List.set_cons_succ, i64_w, i32_w]
          rfl
        refine pure_ (i := 40) (N := some 164) (v := undef) (a' := ?_) #[true, true, true, true, true, true, true, true, true, true, true, true, true, true, true, true, true, true, true, true, true, true, true, true, true, true, true, true, true, true, true, true, true, true, true, true, true, true, true, true, true, false, false, false, false, false, false, false, false, false, false, false, false, false] rfl rfl (any_of HT_.out (by kernel_rfl)) (fun _ _ _ h => h) (Or.inr ⟨by rfl, rfl⟩) ?_ ?_
        rotate_left
        · simp only [Act.put, List.setIfInBounds_toArray, List.set_cons_zero, List.set_cons_succ, i64_w, i32_w]
          rfl
        refine pure_ (i := 41) (N := some 165) (v := undef) (a' := ?_) #[true, true, true, true, true, true, true, true, true, true, true, true, true, true, true, true, true, true, true, true, true, true, true, true, true, true, true, true, true, true, true, true, true, true, true, true, true, true, true, true, true, true, false, false, false, false, false, false, false, false, false, false, false, false] rfl rfl (any_of HT_.out (by kernel_rfl)) (fun _ _ _ h => h) (Or.inr ⟨by rfl, rfl⟩) ?_ ?_
        rotate_left
        · simp only [Act.put, List.setIfInBounds_toArray, List.set_cons_zero, List.set_cons_succ, i64_w, i32_w]
          rfl
        refine pure_ (i := 42) (N := some 166) (v := undef) (a' := ?_) #[true, true, true, true, true, true, true, true, true, true, true, true, true, true, true, true, true, true, true, true, true, true, true, true, true, true, true, true, true, true, true, true, true, true, true, true, true, true, true, true, true, true, true, false, false, false, false, false, false, false, false, false, false, false] rfl rfl (any_of HT_.out (by kernel_rfl)) (fun _ _ _ h => h) (Or.inr ⟨by rfl, rfl⟩) ?_ ?_
        rotate_left
        · simp only [Act.put, List.setIfInBounds_toArray, List.set_cons_zero, List.set_cons_succ, i64_w, i32_w]
          rfl
        refine pure_ (i := 43) (N := some 167) (v := undef) (a' := ?_) #[true, true, true, true, true, true, true, true, true, true, true, true, true, true, true, true, true, true, true, true, true, true, true, true, true, true, true, true, true, true, true, true, true, true, true, true, true, true, true, true, true, true, true, true, false, false, false, false, false, false, false, false, false, false] rfl rfl (any_of HT_.out (by kernel_rfl)) (fun _ _ _ h => h) (Or.inr ⟨by rfl, rfl⟩) ?_ ?_
        rotate_left
        · simp only [Act.put, List.setIfInBounds_toArray, List.set_cons_zero, List.set_cons_succ, i64_w, i32_w]
          rfl
        refine pure_ (i := 44) (N := some 168) (v := undef) (a' := ?_) #[true, true, true, true, true, true, true, true, true, true, true, true, true, true, true, true, true, true, true, true, true, true, true, true, true, true, true, true, true, true, true, true, true, true, true, true, true, true, true, true, true, true, true, true, true, false, false, false, false, false, false, false, false, false] rfl rfl (any_of HT_.out (by kernel_rfl)) (fun _ _ _ h => h) (Or.inr ⟨by rfl, rfl⟩) ?_ ?_
        rotate_left
        · simp only [Act.put, List.setIfInBounds_toArray, List.set_cons_zero, List.set_cons_succ, i64_w, i32_w]
          rfl
        refine pure_ (i := 45) (N := some 169) (v := undef) (a' := ?_) #[true, true, true, true, true, true, true, true, true, true, true, true, true, true, true, true, true, true, true, true, true, true, true, true, true, true, true, true, true, true, true, true, true, true, true, true, true, true, true, true, true, true, true, true, true, true, false, false, false, false, false, false, false, false] rfl rfl (any_of HT_.out (by kernel_rfl)) (fun _ _ _ h => h) (Or.inr ⟨by rfl, rfl⟩) ?_ ?_
        rotate_left
        · simp only [Act.put, List.setIfInBounds_toArray, List.set_cons_zero, List.set_cons_succ, i64_w, i32_w]
          rfl
        refine pure_ (i := 46) (N := some 170) (v := undef) (a' := ?_) #[true, true, true, true, true, true, true, true, true, true, true, true, true, true, true, true, true, true, true, true, true, true, true, true, true, true, true, true, true, true, true, true, true, true, true, true, true, true, true, true, true, true, true, true, true, true, true, false, false, false, false, false, false, false] rfl rfl (any_of HT_.out (by kernel_rfl)) (fun _ _ _ h => h) (Or.inr ⟨by rfl, rfl⟩) ?_ ?_
        rotate_left
        · simp only [Act.put, List.setIfInBounds_toArray, List.set_cons_zero, List.set_cons_succ, i64_w, i32_w]
          rfl
        refine pure_ (i := 47) (N := some 171) (v := undef) (a' := ?_) #[true, true, true, true, true, true, true, true, true, true, true, true, true, true, true, true, true, true, true, true, true, true, true, true, true, true, true, true, true, true, true, true, true, true, true, true, true, true, true, true, true, true, true, true, true, true, true, true, false, false, false, false, false, false] rfl rfl (any_of HT_.out (by kernel_rfl)) (fun _ _ _ h => h) (Or.inr ⟨by rfl, rfl⟩) ?_ ?_
        rotate_left
        · simp only [Act.put, List.setIfInBounds_toArray, List.set_cons_zero, List.set_cons_succ, i64_w, i32_w]
          rfl
        refine pure_ (i := 48) (N := some 172) (v := undef) (a' := ?_) #[true, true, true, true, true, true, true, true, true, true, true, true, true, true, true, true, true, true, true, true, true, true, true, true, true, true, true, true, true, true, true, true, true, true, true, true, true, true, true, true, true, true, true, true, true, true, true, true, true, false, false, false, false, false] rfl rfl (any_of HT_.out (by kernel_rfl)) (fun _ _ _ h => h) (Or.inr ⟨by rfl, rfl⟩) ?_ ?_
        rotate_left
        · simp only [Act.put, List.setIfInBounds_toArray, List.set_cons_zero, List.set_cons_succ, i64_w, i32_w]
          rfl
        refine pure_ (i := 49) (N := some 173) (v := undef) (a' := ?_) #[true, true, true, true, true, true, true, true, true, true, true, true, true, true, true, true, true, true, true, true, true, true, true, true, true, true, true, true, true, true, true, true, true, true, true, true, true, true, true, true, true, true, true, true, true, true, true, true, true, true, false, false, false, false] rfl rfl (any_of HT_.out (by kernel_rfl)) (fun _ _ _ h => h) (Or.inr ⟨by rfl, rfl⟩) ?_ ?_
        rotate_left
        · simp only [Act.put, List.setIfInBounds_toArray, List.set_cons_zero, List.set_cons_succ, i64_w, i32_w]
          rfl
        refine pure_ (i := 50) (N := some 174) (v := undef) (a' := ?_) #[true, true, true, true, true, true, true, true, true, true, true, true, true, true, true, true, true, true, true, true, true, true, true, true, true, true, true, true, true, true, true, true, true, true, true, true, true, true, true, true, true, true, true, true, true, true, true, true, true, true, true, false, false, false] rfl rfl (any_of HT_.out (by kernel_rfl)) (fun _ _ _ h => h) (Or.inr ⟨by rfl, rfl⟩) ?_ ?_
        rotate_left
        · simp only [Act.put, List.setIfInBounds_toArray, List.set_cons_zero, List.set_cons_succ, i64_w, i32_w]
          rfl
        refine pure_ (i := 51) (N := some 175) (v := ?_) (a' := ?_) #[true, true, true, true, true, true, true, true, true, true, true, true, true, true, true, true, true, true, true, true, true, true, true, true, true, true, true, true, true, true, true, true, true, true, true, true, true, true, true, true, true, true, true, true, true, true, true, true, true, true, true, true, false, false] rfl rfl (any_of HT_.out (by kernel_rfl)) (fun _ _ _ h => h) (Or.inl ⟨by rfl, ?_⟩) ?_ ?_
        rotate_left
        · intro w'
          go_simp
          with_reducible rfl
        rotate_left
        · simp only [Act.put, List.setIfInBounds_toArray, List.set_cons_zero, List.set_cons_succ, i64_w, i32_w]
          rfl
        refine pure_ (i := 52) (N := some 176) (v := ?_) (a' := ?_) #[true, true, true, true, true, true, true, true, true, true, true, true, true, true, true, true, true, true, true, true, true, true, true, true, true, true, true, true, true, true, true, true, true, true, true, true, true, true, true, true, true, true, true, true, true, true, true, true, true, true, true, true, true, false] rfl rfl (any_of HT_.out (by kernel_rfl)) (fun _ _ _ h => h) (Or.inl ⟨by rfl, ?_⟩) ?_ ?_
        rotate_left
        · intro w'
          go_simp
          with_reducible rfl
        rotate_left
        · simp only [Act.put, List.setIfInBounds_toArray, List.set_cons_zero, List.set_cons_succ, i64_w, i32_w]
          rfl
        refine pure_ (i := 53) (N := some 4) (v := ?_) (a' := ?_) #[true, true, true, true, true, true, true, true, true, true, true, true, true, true, true, true, true, true, true, true, true, true, true, true, true, true, true, true, true, true, true, true, true, true, true, true, true, true, true, true, true, true, true, true, true, true, true, true, true, true, true, true, true, true] rfl rfl (any_of HT_.out (by kernel_rfl)) (fun _ _ _ h => h) (Or.inl ⟨by rfl, ?_⟩) ?_ ?_
        rotate_left
        · intro w'
          go_simp
          with_reducible rfl
        rotate_left
        · simp only [Act.put, List.setIfInBounds_toArray, List.set_cons_zero, List.set_cons_succ, i64_w, i32_w]
          rfl
        refine done_ (done_of HT_.out (by kernel_rfl)) ?_
        try go_wp2
        go_ret
        exact ⟨by first | rfl | (simp [errW_none, errW_some] <;> rfl) | (simp only [← hji5, ← hji9, ← hji13, ← hji17]; first | rfl | (simp [errW_none, errW_some] <;> rfl)) | (simp [*, errW_none, errW_some] <;> rfl), belx HB⟩
      rw [if_pos c84] at H
      have c84b0 : (t248 == 0) = true := beq_iff_eq.mpr c84
      have c84b1 : (t248 != 0) = false := bne_eq_false_iff_eq.mpr c84
      clear c84
      by_cases c85 : (t247.length : Int) = 2
      case neg => rw [if_neg c85] at H; exact absurd H (by simp)
      rw [if_pos c85] at H
      have c85b0 : ((t247.length : Int) == 2) = true := beq_iff_eq.mpr c85
      have c85b1 : ((t247.length : Int) != 2) = false := bne_eq_false_iff_eq.mpr c85
      clear c85
      by_cases c86 : 0 < (t247.length : Int)
      case neg => rw [if_neg c86] at H; exact absurd H (by simp)
      rw [if_pos c86] at H
      have c86b0 : decide (0 < (t247.length : Int)) = true := decide_eq_true c86
      have c86b1 : decide (0 < t247.length) = true := decide_eq_true (by omega)
      clear c86
      replace H := Option.bind_eq_some_iff.mp H
      obtain ⟨⟨t282, t283, t284, t285⟩, A870, H⟩ := H
      replace H : (some (((rd_T35 t247 0).f2.f0) == t282 && (((rd_T35 t247 0).f2.f1) == t283 && (((rd_T35 t247 0).f2.f2) == t284 && (((rd_T35 t247 0).f2.f3) == t285))))) = some r := H
      have A87 := Aside0.mk A870
      clear A870
      obtain rfl := Option.some.inj H
      try go_wp2
      have n0_ := Aside0.mk (Kd.R_drew HO_8.out)
      have n1_ := Aside0.mk (Kd.R_drew HO_11.out)
      have n2_ := Aside0.mk (Kd.R_drew HO_14.out)
      have n3_ := Aside0.mk (Kd.R_drew HO_17.out)
      have n4_ := Aside0.mk (below_drew1 HB.out)
      clear HO_8
      clear HO_11
      clear HO_14
      clear HO_17
      clear HB
      have HO_8 := n0_
      have HO_11 := n1_
      have HO_14 := n2_
      have HO_17 := n3_
      have HB := n4_
      clear n0_ n1_ n2_ n3_ n4_
      obtain ⟨Ao89, co89, eo89⟩ := Kd.R_slice HO_8.out
      (first | subst eo89 | (injection eo89 with f1_ f2_ f3_; have f4_ := f1_.symm; have f5_ := f3_.symm; clear f1_ f2_ f3_; subst f4_; subst f5_))
      obtain ⟨AxHO_11, cxHO_11, exHO_11⟩ := Kd.R_slice HO_11.out; subst exHO_11
      obtain ⟨AxHO_17, cxHO_17, exHO_17⟩ := Kd.R_slice HO_17.out; subst exHO_17
      obtain ⟨AxHO_14, cxHO_14, exHO_14⟩ := Kd.R_slice HO_14.out; subst exHO_14
      have p257 : 0 ≤ (0 : Int) := (by omega)
      have q257 : 0 < (t237.length : Int) := odt
      obtain ⟨ad257, e257, hx257_0, hx257_1, hx257_2, hx257_3, hx257_4, hx257_5, hx257_6, hx257_7, hx257_8⟩ := at_T35 (Kd.R_reads' HO_8.out).2.2 0 p257 q257
      cases e257
      have qi257 : (0 < t237.length) = True := eq_true (by omega)
      (try rw [show ((0 : Int)).toNat = 0 from rfl] at hx257_0)
      (try rw [show 0 * 9 = 0 from rfl] at hx257_0)
      (try rw [Addr.add_zero'] at hx257_0)
      (try rw [show ((0 : Int)).toNat = 0 from rfl] at hx257_1)
      (try rw [show 0 * 9 = 0 from rfl] at hx257_1)
      (try rw [Addr.add_zero'] at hx257_1)
      (try rw [show ((0 : Int)).toNat = 0 from rfl] at hx257_2)
      (try rw [show 0 * 9 = 0 from rfl] at hx257_2)
      (try rw [Addr.add_zero'] at hx257_2)
      (try rw [show ((0 : Int)).toNat = 0 from rfl] at hx257_3)
      (try rw [show 0 * 9 = 0 from rfl] at hx257_3)
      (try rw [Addr.add_zero'] at hx257_3)
      (try rw [show ((0 : Int)).toNat = 0 from rfl] at hx257_4)
      (try rw [show 0 * 9 = 0 from rfl] at hx257_4)
      (try rw [Addr.add_zero'] at hx257_4)
      (try rw [show ((0 : Int)).toNat = 0 from rfl] at hx257_5)
      (try rw [show 0 * 9 = 0 from rfl] at hx257_5)
      (try rw [Addr.add_zero'] at hx257_5)
      (try rw [show ((0 : Int)).toNat = 0 from rfl] at hx257_6)
      (try rw [show 0 * 9 = 0 from rfl] at hx257_6)
      (try rw [Addr.add_zero'] at hx257_6)
      (try rw [show ((0 : Int)).toNat = 0 from rfl] at hx257_7)
      (try rw [show 0 * 9 = 0 from rfl] at hx257_7)
      (try rw [Addr.add_zero'] at hx257_7)
      (try rw [show ((0 : Int)).toNat = 0 from rfl] at hx257_8)
      (try rw [show 0 * 9 = 0 from rfl] at hx257_8)
      (try rw [Addr.add_zero'] at hx257_8)
      replace p257 := eq_true p257
      replace q257 := eq_true q257
      have p262 : 0 ≤ (0 : Int) := (by omega)
      have q262 : 0 < (t242.length : Int) := odt
      obtain ⟨ad262, e262, hx262_0, hx262_1, hx262_2, hx262_3, hx262_4, hx262_5, hx262_6, hx262_7, hx262_8⟩ := at_T35 (Kd.R_reads' HO_11.out).2.2 0 p262 q262
      cases e262
      have qi262 : (0 < t242.length) = True := eq_true (by omega)
      (try rw [show ((0 : Int)).toNat = 0 from rfl] at hx262_0)
      (try rw [show 0 * 9 = 0 from rfl] at hx262_0)
      (try rw [Addr.add_zero'] at hx262_0)
      (try rw [show ((0 : Int)).toNat = 0 from rfl] at hx262_1)
      (try rw [show 0 * 9 = 0 from rfl] at hx262_1)
      (try rw [Addr.add_zero'] at hx262_1)
      (try rw [show ((0 : Int)).toNat = 0 from rfl] at hx262_2)
      (try rw [show 0 * 9 = 0 from rfl] at hx262_2)
      (try rw [Addr.add_zero'] at hx262_2)
      (try rw [show ((0 : Int)).toNat = 0 from rfl] at hx262_3)
      (try rw [show 0 * 9 = 0 from rfl] at hx262_3)
      (try rw [Addr.add_zero'] at hx262_3)
      (try rw [show ((0 : Int)).toNat = 0 from rfl] at hx262_4)
      (try rw [show 0 * 9 = 0 from rfl] at hx262_4)
      (try rw [Addr.add_zero'] at hx262_4)
      (try rw [show ((0 : Int)).toNat = 0 from rfl] at hx262_5)
      (try rw [show 0 * 9 = 0 from rfl] at hx262_5)
      (try rw [Addr.add_zero'] at hx262_5)
      (try rw [show ((0 : Int)).toNat = 0 from rfl] at hx262_6)
      (try rw [show 0 * 9 = 0 from rfl] at hx262_6)
      (try rw [Addr.add_zero'] at hx262_6)
      (try rw [show ((0 : Int)).toNat = 0 from rfl] at hx262_7)
      (try rw [show 0 * 9 = 0 from rfl] at hx262_7)
      (try rw [Addr.add_zero'] at hx262_7)
      (try rw [show ((0 : Int)).toNat = 0 from rfl] at hx262_8)
      (try rw [show 0 * 9 = 0 from rfl] at hx262_8)
      (try rw [Addr.add_zero'] at hx262_8)
      replace p262 := eq_true p262
      replace q262 := eq_true q262
      have p263 : 0 ≤ (0 : Int) := (by omega)
      have q263 : 0 < (t237.length : Int) := odt
      obtain ⟨ad263, e263, hx263_0, hx263_1, hx263_2, hx263_3, hx263_4, hx263_5, hx263_6, hx263_7, hx263_8⟩ := at_T35 (Kd.R_reads' HO_8.out).2.2 0 p263 q263
      obtain rfl : ad257 = ad263 := (by injection e263)
      have qi263 : (0 < t237.length) = True := eq_true (by omega)
      (try rw [show ((0 : Int)).toNat = 0 from rfl] at hx263_0)
      (try rw [show 0 * 9 = 0 from rfl] at hx263_0)
      (try rw [Addr.add_zero'] at hx263_0)
      (try rw [show ((0 : Int)).toNat = 0 from rfl] at hx263_1)
      (try rw [show 0 * 9 = 0 from rfl] at hx263_1)
      (try rw [Addr.add_zero'] at hx263_1)
      (try rw [show ((0 : Int)).toNat = 0 from rfl] at hx263_2)
      (try rw [show 0 * 9 = 0 from rfl] at hx263_2)
      (try rw [Addr.add_zero'] at hx263_2)
      (try rw [show ((0 : Int)).toNat = 0 from rfl] at hx263_3)
      (try rw [show 0 * 9 = 0 from rfl] at hx263_3)
      (try rw [Addr.add_zero'] at hx263_3)
      (try rw [show ((0 : Int)).toNat = 0 from rfl] at hx263_4)
      (try rw [show 0 * 9 = 0 from rfl] at hx263_4)
      (try rw [Addr.add_zero'] at hx263_4)
      (try rw [show ((0 : Int)).toNat = 0 from rfl] at hx263_5)
      (try rw [show 0 * 9 = 0 from rfl] at hx263_5)
      (try rw [Addr.add_zero'] at hx263_5)
      (try rw [show ((0 : Int)).toNat = 0 from rfl] at hx263_6)
      (try rw [show 0 * 9 = 0 from rfl] at hx263_6)
      (try rw [Addr.add_zero'] at hx263_6)
      (try rw [show ((0 : Int)).toNat = 0 from rfl] at hx263_7)
      (try rw [show 0 * 9 = 0 from rfl] at hx263_7)
      (try rw [Addr.add_zero'] at hx263_7)
      (try rw [show ((0 : Int)).toNat = 0 from rfl] at hx263_8)
      (try rw [show 0 * 9 = 0 from rfl] at hx263_8)
      (try rw [Addr.add_zero'] at hx263_8)
      replace p263 := eq_true p263
      replace q263 := eq_true q263
      have p268 : 0 ≤ (0 : Int) := (by omega)
      have q268 : 0 < (t252.length : Int) := odt
      obtain ⟨ad268, e268, hx268_0, hx268_1, hx268_2, hx268_3, hx268_4, hx268_5, hx268_6, hx268_7, hx268_8⟩ := at_T35 (Kd.R_reads' HO_17.out).2.2 0 p268 q268
      cases e268
      have qi268 : (0 < t252.length) = True := eq_true (by omega)
      (try rw [show ((0 : Int)).toNat = 0 from rfl] at hx268_0)
      (try rw [show 0 * 9 = 0 from rfl] at hx268_0)
      (try rw [Addr.add_zero'] at hx268_0)
      (try rw [show ((0 : Int)).toNat = 0 from rfl] at hx268_1)
      (try rw [show 0 * 9 = 0 from rfl] at hx268_1)
      (try rw [Addr.add_zero'] at hx268_1)
      (try rw [show ((0 : Int)).toNat = 0 from rfl] at hx268_2)
      (try rw [show 0 * 9 = 0 from rfl] at hx268_2)
      (try rw [Addr.add_zero'] at hx268_2)
      (try rw [show ((0 : Int)).toNat = 0 from rfl] at hx268_3)
      (try rw [show 0 * 9 = 0 from rfl] at hx268_3)
      (try rw [Addr.add_zero'] at hx268_3)
      (try rw [show ((0 : Int)).toNat = 0 from rfl] at hx268_4)
      (try rw [show 0 * 9 = 0 from rfl] at hx268_4)
      (try rw [Addr.add_zero'] at hx268_4)
      (try rw [show ((0 : Int)).toNat = 0 from rfl] at hx268_5)
      (try rw [show 0 * 9 = 0 from rfl] at hx268_5)
      (try rw [Addr.add_zero'] at hx268_5)
      (try rw [show ((0 : Int)).toNat = 0 from rfl] at hx268_6)
      (try rw [show 0 * 9 = 0 from rfl] at hx268_6)
      (try rw [Addr.add_zero'] at hx268_6)
      (try rw [show ((0 : Int)).toNat = 0 from rfl] at hx268_7)
      (try rw [show 0 * 9 = 0 from rfl] at hx268_7)
      (try rw [Addr.add_zero'] at hx268_7)
      (try rw [show ((0 : Int)).toNat = 0 from rfl] at hx268_8)
      (try rw [show 0 * 9 = 0 from rfl] at hx268_8)
      (try rw [Addr.add_zero'] at hx268_8)
      replace p268 := eq_true p268
      replace q268 := eq_true q268
      have p281 : 0 ≤ (0 : Int) := (by omega)
      have q281 : 0 < (t247.length : Int) := odt
      obtain ⟨ad281, e281, hx281_0, hx281_1, hx281_2, hx281_3, hx281_4, hx281_5, hx281_6, hx281_7, hx281_8⟩ := at_T35 (Kd.R_reads' HO_14.out).2.2 0 p281 q281
      cases e281
      have qi281 : (0 < t247.length) = True := eq_true (by omega)
      (try rw [show ((0 : Int)).toNat = 0 from rfl] at hx281_0)
      (try rw [show 0 * 9 = 0 from rfl] at hx281_0)
      (try rw [Addr.add_zero'] at hx281_0)
      (try rw [show ((0 : Int)).toNat = 0 from rfl] at hx281_1)
      (try rw [show 0 * 9 = 0 from rfl] at hx281_1)
      (try rw [Addr.add_zero'] at hx281_1)
      (try rw [show ((0 : Int)).toNat = 0 from rfl] at hx281_2)
      (try rw [show 0 * 9 = 0 from rfl] at hx281_2)
      (try rw [Addr.add_zero'] at hx281_2)
      (try rw [show ((0 : Int)).toNat = 0 from rfl] at hx281_3)
      (try rw [show 0 * 9 = 0 from rfl] at hx281_3)
      (try rw [Addr.add_zero'] at hx281_3)
      (try rw [show ((0 : Int)).toNat = 0 from rfl] at hx281_4)
      (try rw [show 0 * 9 = 0 from rfl] at hx281_4)
      (try rw [Addr.add_zero'] at hx281_4)
      (try rw [show ((0 : Int)).toNat = 0 from rfl] at hx281_5)
      (try rw [show 0 * 9 = 0 from rfl] at hx281_5)
      (try rw [Addr.add_zero'] at hx281_5)
      (try rw [show ((0 : Int)).toNat = 0 from rfl] at hx281_6)
      (try rw [show 0 * 9 = 0 from rfl] at hx281_6)
      (try rw [Addr.add_zero'] at hx281_6)
      (try rw [show ((0 : Int)).toNat = 0 from rfl] at hx281_7)
      (try rw [show 0 * 9 = 0 from rfl] at hx281_7)
      (try rw [Addr.add_zero'] at hx281_7)
      (try rw [show ((0 : Int)).toNat = 0 from rfl] at hx281_8)
      (try rw [show 0 * 9 = 0 from rfl] at hx281_8)
      (try rw [Addr.add_zero'] at hx281_8)
      replace p281 := eq_true p281
      replace q281 := eq_true q281
      refine start_ (n := 54) (S := fun w' => w'.cell? ad257 = some (.int .i64 ((rd_T35 t237 0).f0)) ∧ w'.cell? ⟨ad257.block, ad257.off + 1, none⟩ = some (.int .i64 ((rd_T35 t237 0).f1)) ∧ w'.cell? ⟨ad257.block, ad257.off + 2, none⟩ = some (.int .u64 ((rd_T35 t237 0).f2.f0)) ∧ w'.cell? ⟨ad257.block, ad257.off + 3, none⟩ = some (.int .u64 ((rd_T35 t237 0).f2.f1)) ∧ w'.cell? ⟨ad257.block, ad257.off + 4, none⟩ = some (.int .u64 ((rd_T35 t237 0).f2.f2)) ∧ w'.cell? ⟨ad257.block, ad257.off + 5, none⟩ = some (.int .u64 ((rd_T35 t237 0).f2.f3)) ∧ w'.cell? ⟨ad257.block, ad257.off + 6, none⟩ = some (.string ((rd_T35 t237 0).f3)) ∧ w'.cell? ⟨ad257.block, ad257.off + 7, none⟩ = some (.int .i64 ((rd_T35 t237 0).f4)) ∧ w'.cell? ⟨ad257.block, ad257.off + 8, none⟩ = some (.int .i64 ((rd_T35 t237 0).f5)) ∧ w'.cell? ad262 = some (.int .i64 ((rd_T35 t242 0).f0)) ∧ w'.cell? ⟨ad262.block, ad262.off + 1, none⟩ = some (.int .i64 ((rd_T35 t242 0).f1)) ∧ w'.cell? ⟨ad262.block, ad262.off + 2, none⟩ = some (.int .u64 ((rd_T35 t242 0).f2.f0)) ∧ w'.cell? ⟨ad262.block, ad262.off + 3, none⟩ = some (.int .u64 ((rd_T35 t242 0).f2.f1)) ∧ w'.cell? ⟨ad262.block, ad262.off + 4, none⟩ = some (.int .u64 ((rd_T35 t242 0).f2.f2)) ∧ w'.cell? ⟨ad262.block, ad262.off + 5, none⟩ = some (.int .u64 ((rd_T35 t242 0).f2.f3)) ∧ w'.cell? ⟨ad262.block, ad262.off + 6, none⟩ = some (.string ((rd_T35 t242 0).f3)) ∧ w'.cell? ⟨ad262.block, ad262.off + 7, none⟩ = some (.int .i64 ((rd_T35 t242 0).f4)) ∧ w'.cell? ⟨ad262.block, ad262.off + 8, none⟩ = some (.int .i64 ((rd_T35 t242 0).f5)) ∧ w'.cell? ad257 = some (.int .i64 ((rd_T35 t237 0).f0)) ∧ w'.cell? ⟨ad257.block, ad257.off + 1, none⟩ = some (.int .i64 ((rd_T35 t237 0).f1)) ∧ w'.cell? ⟨ad257.block, ad257.off + 2, none⟩ = some (.int .u64 ((rd_T35 t237 0).f2.f0)) ∧ w'.cell? ⟨ad257.block, ad257.off + 3, none⟩ = some (.int .u64 ((rd_T35 t237 0).f2.f1)) ∧ w'.cell? ⟨ad257.block, ad257.off + 4, none⟩ = some (.int .u64 ((rd_T35 t237 0).f2.f2)) ∧ w'.cell? ⟨ad257.block, ad257.off + 5, none⟩ = some (.int .u64 ((rd_T35 t237 0).f2.f3)) ∧ w'.cell? ⟨ad257.block, ad257.off + 6, none⟩ = some (.string ((rd_T35 t237 0).f3)) ∧ w'.cell? ⟨ad257.block, ad257.off + 7, none⟩ = some (.int .i64 ((rd_T35 t237 0).f4)) ∧ w'.cell? ⟨ad257.block, ad257.off + 8, none⟩ = some (.int .i64 ((rd_T35 t237 0).f5)) ∧ w'.cell? ad268 = some (.int .i64 ((rd_T35 t252 0).f0)) ∧ w'.cell? ⟨ad268.block, ad268.off + 1, none⟩ = some (.int .i64 ((rd_T35 t252 0).f1)) ∧ w'.cell? ⟨ad268.block, ad268.off + 2, none⟩ = some (.int .u64 ((rd_T35 t252 0).f2.f0)) ∧ w'.cell? ⟨ad268.block, ad268.off + 3, none⟩ = some (.int .u64 ((rd_T35 t252 0).f2.f1)) ∧ w'.cell? ⟨ad268.block, ad268.off + 4, none⟩ = some (.int .u64 ((rd_T35 t252 0).f2.f2)) ∧ w'.cell? ⟨ad268.block, ad268.off + 5, none⟩ = some (.int .u64 ((rd_T35 t252 0).f2.f3)) ∧ w'.cell? ⟨ad268.block, ad268.off + 6, none⟩ = some (.string ((rd_T35 t252 0).f3)) ∧ w'.cell? ⟨ad268.block, ad268.off + 7, none⟩ = some (.int .i64 ((rd_T35 t252 0).f4)) ∧ w'.cell? ⟨ad268.block, ad268.off + 8, none⟩ = some (.int .i64 ((rd_T35 t252 0).f5)) ∧ w'.cell? ad281 = some (.int .i64 ((rd_T35 t247 0).f0)) ∧ w'.cell? ⟨ad281.block, ad281.off + 1, none⟩ = some (.int .i64 ((rd_T35 t247 0).f1)) ∧ w'.cell? ⟨ad281.block, ad281.off + 2, none⟩ = some (.int .u64 ((rd_T35 t247 0).f2.f0)) ∧ w'.cell? ⟨ad281.block, ad281.off + 3, none⟩ = some (.int .u64 ((rd_T35 t247 0).f2.f1)) ∧ w'.cell? ⟨ad281.block, ad281.off + 4, none⟩ = some (.int .u64 ((rd_T35 t247 0).f2.f2)) ∧ w'.cell? ⟨ad281.block, ad281.off + 5, none⟩ = some (.int .u64 ((rd_T35 t247 0).f2.f3)) ∧ w'.cell? ⟨ad281.block, ad281.off + 6, none⟩ = some (.string ((rd_T35 t247 0).f3)) ∧ w'.cell? ⟨ad281.block, ad281.off + 7, none⟩ = some (.int .i64 ((rd_T35 t247 0).f4)) ∧ w'.cell? ⟨ad281.block, ad281.off + 8, none⟩ = some (.int .i64 ((rd_T35 t247 0).f5))) (ds := []) #[false, false, false, false, false, false, false, false, false, false, false, false, false, false, false, false, false, false, false, false, false, false, false, false, false, false, false, false, false, false, false, false, false, false, false, false, false, false, false, false, false, false, false, false, false, false, false, false, false, false, false, false, false, false] (by kernel_rfl) rfl rfl ⟨hx257_0, hx257_1, hx257_2, hx257_3, hx257_4, hx257_5, hx257_6, hx257_7, hx257_8, hx262_0, hx262_1, hx262_2, hx262_3, hx262_4, hx262_5, hx262_6, hx262_7, hx262_8, hx263_0, hx263_1, hx263_2, hx263_3, hx263_4, hx263_5, hx263_6, hx263_7, hx263_8, hx268_0, hx268_1, hx268_2, hx268_3, hx268_4, hx268_5, hx268_6, hx268_7, hx268_8, hx281_0, hx281_1, hx281_2, hx281_3, hx281_4, hx281_5, hx281_6, hx281_7, hx281_8⟩ (fun hHeld => ?_); refine with_tabW scantlinglaw03_LexClass.tab12 scantlinglaw03_LexClass.bits12 (fun HT_ HW_ => ?_)
      generalize wc.drew = w88 at HO_8 HO_11 HO_14 HO_17 HB hx257_0 hx257_1 hx257_2 hx257_3 hx257_4 hx257_5 hx257_6 hx257_7 hx257_8 hx262_0 hx262_1 hx262_2 hx262_3 hx262_4 hx262_5 hx262_6 hx262_7 hx262_8 hx263_0 hx263_1 hx263_2 hx263_3 hx263_4 hx263_5 hx263_6 hx263_7 hx263_8 hx268_0 hx268_1 hx268_2 hx268_3 hx268_4 hx268_5 hx268_6 hx268_7 hx268_8 hx281_0 hx281_1 hx281_2 hx281_3 hx281_4 hx281_5 hx281_6 hx281_7 hx281_8 hHeld ⊢
      refine pure_ (i := 0) (N := some 124) (v := ?_) (a' := ?_) #[true, false, false, false, false, false, false, false, false, false, false, false, false, false, false, false, false, false, false, false, false, false, false, false, false, false, false, false, false, false, false, false, false, false, false, false, false, false, false, false, false, false, false, false, false, false, false, false, false, false, false, false, false, false] rfl rfl (any_of HT_.out (by kernel_rfl)) (fun _ _ _ h => h) (Or.inl ⟨by rfl, ?_⟩) ?_ ?_
      rotate_left
      · intro w'
        go_simp
        with_reducible rfl
      rotate_left
      · simp only [Act.put, List.setIfInBounds_toArray, List.set_cons_zero, List.set_cons_succ, i64_w, i32_w]
        rfl
      refine pure_ (i := 1) (N := some 125) (v := ?_) (a' := ?_) #[true, true, false, false, false, false, false, false, false, false, false, false, false, false, false, false, false, false, false, false, false, false, false, false, false, false, false, false, false, false, false, false, false, false, false, false, false, false, false, false, false, false, false, false, false, false, false, false, false, false, false, false, false, false] rfl rfl (any_of HT_.out (by kernel_rfl)) (fun _ _ _ h => h) (Or.inl ⟨by rfl, ?_⟩) ?_ ?_
      rotate_left
      · intro w'
        go_simp
        with_reducible rfl
      rotate_left
      · simp only [Act.put, List.setIfInBounds_toArray, List.set_cons_zero, List.set_cons_succ, i64_w, i32_w]
        rfl
      refine pure_ (i := 2) (N := some 126) (v := ?_) (a' := ?_) #[true, true, true, false, false, false, false, false, false, false, false, false, false, false, false, false, false, false, false, false, false, false, false, false, false, false, false, false, false, false, false, false, false, false, false, false, false, false, false, false, false, false, false, false, false, false, false, false, false, false, false, false, false, false] rfl rfl (any_of HT_.out (by kernel_rfl)) (fun _ _ _ h => h) (Or.inl ⟨by rfl, ?_⟩) ?_ ?_
      rotate_left
      · intro w'
        go_simp
        with_reducible rfl
      rotate_left
      · simp only [Act.put, List.setIfInBounds_toArray, List.set_cons_zero, List.set_cons_succ, i64_w, i32_w]
        rfl
      refine pure_ (i := 4) (N := some 128) (v := ?_) (a' := ?_) #[true, true, true, false, true, false, false, false, false, false, false, false, false, false, false, false, false, false, false, false, false, false, false, false, false, false, false, false, false, false, false, false, false, false, false, false, false, false, false, false, false, false, false, false, false, false, false, false, false, false, false, false, false, false] rfl rfl (any_of HT_.out (by kernel_rfl)) (fun _ _ _ h => h) (Or.inl ⟨by rfl, ?_⟩) ?_ ?_
      rotate_left
      · intro w'
        go_simp
        with_reducible rfl
      rotate_left
      · simp only [Act.put, List.setIfInBounds_toArray, List.set_cons_zero, List.set_cons_succ, i64_w, i32_w]
        rfl
      refine pure_ (i := 5) (N := some 129) (v := ?_) (a' := ?_) #[true, true, true, false, true, true, false, false, false, false, false, false, false, false, false, false, false, false, false, false, false, false, false, false, false, false, false, false, false, false, false, false, false, false, false, false, false, false, false, false, false, false, false, false, false, false, false, false, false, false, false, false, false, false] rfl rfl (any_of HT_.out (by kernel_rfl)) (fun _ _ _ h => h) (Or.inl ⟨by rfl, ?_⟩) ?_ ?_
      rotate_left
      · intro w'
        go_simp
        with_reducible rfl
      rotate_left
      · simp only [Act.put, List.setIfInBounds_toArray, List.set_cons_zero, List.set_cons_succ, i64_w, i32_w]
        rfl
      refine take_ (i := 3) (N := some 127) (v := ?_) (a' := ?_) #[true, true, true, true, true, true, false, false, false, false, false, false, false, false, false, false, false, false, false, false, false, false, false, false, false, false, false, false, false, false, false, false, false, false, false, false, false, false, false, false, false, false, false, false, false, false, false, false, false, false, false, false, false, false] rfl rfl (take_ofW HT_.out HW_.out (by kernel_rfl)) (fun _ _ _ h => h) (Or.inl ⟨by rfl, ?_⟩) hHeld ?_ ?_
      rotate_left
      · rintro w' ⟨s0, s1, s2, s3, s4, s5, s6, s7, s8, s9, s10, s11, s12, s13, s14, s15, s16, s17, s18, s19, s20, s21, s22, s23, s24, s25, s26, s27, s28, s29, s30, s31, s32, s33, s34, s35, s36, s37, s38, s39, s40, s41, s42, s43, s44⟩
        go_simp
        with_reducible rfl
      rotate_left
      · simp only [Act.put, List.setIfInBounds_toArray, List.set_cons_zero, List.set_cons_succ, i64_w, i32_w]
        rfl
      refine one_ (i := 6) (N := some 130) #[true, true, true, true, true, true, true, false, false, false, false, false, false, false, false, false, false, false, false, false, false, false, false, false, false, false, false, false, false, false, false, false, false, false, false, false, false, false, false, false, false, false, false, false, false, false, false, false, false, false, false, false, false, false] rfl rfl (one_of HT_.out (by kernel_rfl)) (by decide) (fun K hK => ?_)
      refine goes_ Tryd.func17 (by kernel_rfl) rfl #[.int .u8 a0, .int .u8 a0] (by rfl) rfl rfl (by (try simp only [List.map_toArray, List.map_cons, List.map_nil]); first | done | rfl | (simp only [List.length_drop, List.length_take]; rfl)) ?_
      with_reducible refine (scantlingref01_Row.calls kj34 a0 a0 t258 t259 t260 t261 _ A74.out).mono ?_
      rintro e w90 ⟨rfl, hb⟩
      have HS_ := hsA hb hHeld fun h => hsA hb h fun h => hsA hb h fun h => hsA hb h fun h => hsA hb h fun h => hsA hb h fun h => hsA hb h fun h => hsA hb h fun h => hsA hb h fun h => hsA hb h fun h => hsA hb h fun h => hsA hb h fun h => hsA hb h fun h => hsA hb h fun h => hsA hb h fun h => hsA hb h fun h => hsA hb h fun h => hsA hb h fun h => hsA hb h fun h => hsA hb h fun h => hsA hb h fun h => hsA hb h fun h => hsA hb h fun h => hsA hb h fun h => hsA hb h fun h => hsA hb h fun h => hsA hb h fun h => hsA hb h fun h => hsA hb h fun h => hsA hb h fun h => hsA hb h fun h => hsA hb h fun h => hsA hb h fun h => hsA hb h fun h => hsA hb h fun h => hsA hb h fun h => hsA hb h fun h => hsA hb h fun h => hsA hb h fun h => hsA hb h fun h => hsA hb h fun h => hsA hb h fun h => hsA hb h fun h => hsA hb h fun h => hsc hb h
      refine ⟨_, rfl, ?_⟩
      have n0_ := Aside0.mk (Kd.R_below (by (with_reducible repeat (first | apply Kd.R_alloc | apply Kd.R_drewN | apply Kd.R_drew)); exact HO_8.out) hb)
      have n1_ := Aside0.mk (Kd.R_below (by (with_reducible repeat (first | apply Kd.R_alloc | apply Kd.R_drewN | apply Kd.R_drew)); exact HO_11.out) hb)
      have n2_ := Aside0.mk (Kd.R_below (by (with_reducible repeat (first | apply Kd.R_alloc | apply Kd.R_drewN | apply Kd.R_drew)); exact HO_14.out) hb)
      have n3_ := Aside0.mk (Kd.R_below (by (with_reducible repeat (first | apply Kd.R_alloc | apply Kd.R_drewN | apply Kd.R_drew)); exact HO_17.out) hb)
      have n4_ := Aside0.mk (below_step (belx HB) hb)
      clear HO_8
      clear HO_11
      clear HO_14
      clear HO_17
      clear HB
      have HO_8 := n0_
      have HO_11 := n1_
      have HO_14 := n2_
      have HO_17 := n3_
      have HB := n4_
      clear n0_ n1_ n2_ n3_ n4_
      (try clear hb)
      (try clear hb2)
      (try clear hk)
      (try clear hi)
      obtain ⟨Ao91, co91, eo91⟩ := Kd.R_slice HO_11.out
      (first | subst eo91 | (injection eo91 with f1_ f2_ f3_; have f4_ := f1_.symm; have f5_ := f3_.symm; clear f1_ f2_ f3_; subst f4_; subst f5_))
      refine hK.out _ _ HS_ (fun hHeld => ?_)
      clear hK K
      refine norm_ (a' := ?_) ?_ ?_
      rotate_left
      · show Act.put _ (some 130) _ = _
        simp only [Act.put, List.setIfInBounds_toArray, List.set_cons_zero, List.set_cons_succ, i64_w, i32_w]
        rfl
      refine pure_ (i := 7) (N := some 131) (v := ?_) (a' := ?_) #[true, true, true, true, true, true, true, true, false, false, false, false, false, false, false, false, false, false, false, false, false, false, false, false, false, false, false, false, false, false, false, false, false, false, false, false, false, false, false, false, false, false, false, false, false, false, false, false, false, false, false, false, false, false] rfl rfl (any_of HT_.out (by kernel_rfl)) (fun _ _ _ h => h) (Or.inl ⟨by rfl, ?_⟩) ?_ ?_
      rotate_left
      · intro w'
        go_simp
        with_reducible rfl
      rotate_left
      · simp only [Act.put, List.setIfInBounds_toArray, List.set_cons_zero, List.set_cons_succ, i64_w, i32_w]
        rfl
      refine pure_ (i := 8) (N := some 132) (v := ?_) (a' := ?_) #[true, true, true, true, true, true, true, true, true, false, false, false, false, false, false, false, false, false, false, false, false, false, false, false, false, false, false, false, false, false, false, false, false, false, false, false, false, false, false, false, false, false, false, false, false, false, false, false, false, false, false, false, false, false] rfl rfl (any_of HT_.out (by kernel_rfl)) (fun _ _ _ h => h) (Or.inl ⟨by rfl, ?_⟩) ?_ ?_
      rotate_left
      · intro w'
        go_simp
        with_reducible rfl
      rotate_left
      · simp only [Act.put, List.setIfInBounds_toArray, List.set_cons_zero, List.set_cons_succ, i64_w, i32_w]
        rfl
      refine pure_ (i := 9) (N := some 133) (v := ?_) (a' := ?_) #[true, true, true, true, true, true, true, true, true, true, false, false, false, false, false, false, false, false, false, false, false, false, false, false, false, false, false, false, false, false, false, false, false, false, false, false, false, false, false, false, false, false, false, false, false, false, false, false, false, false, false, false, false, false] rfl rfl (any_of HT_.out (by kernel_rfl)) (fun _ _ _ h => h) (Or.inl ⟨by rfl, ?_⟩) ?_ ?_
      rotate_left
      · intro w'
        go_simp
        with_reducible rfl
      rotate_left
      · simp only [Act.put, List.setIfInBounds_toArray, List.set_cons_zero, List.set_cons_succ, i64_w, i32_w]
        rfl
      refine pure_ (i := 10) (N := some 134) (v := ?_) (a' := ?_) #[true, true, true, true, true, true, true, true, true, true, true, false, false, false, false, false, false, false, false, false, false, false, false, false, false, false, false, false, false, false, false, false, false, false, false, false, false, false, false, false, false, false, false, false, false, false, false, false, false, false, false, false, false, false] rfl rfl (any_of HT_.out (by kernel_rfl)) (fun _ _ _ h => h) (Or.inl ⟨by rfl, ?_⟩) ?_ ?_
      rotate_left
      · intro w'
        go_simp
        with_reducible rfl
      rotate_left
      · simp only [Act.put, List.setIfInBounds_toArray, List.set_cons_zero, List.set_cons_succ, i64_w, i32_w]
        rfl
      refine pure_ (i := 11) (N := some 135) (v := ?_) (a' := ?_) #[true, true, true, true, true, true, true, true, true, true, true, true, false, false, false, false, false, false, false, false, false, false, false, false, false, false, false, false, false, false, false, false, false, false, false, false, false, false, false, false, false, false, false, false, false, false, false, false, false, false, false, false, false, false] rfl rfl (any_of HT_.out (by kernel_rfl)) (fun _ _ _ h => h) (Or.inl ⟨by rfl, ?_⟩) ?_ ?_
      rotate_left
      · intro w'
        go_simp
        with_reducible rfl
      rotate_left
      · simp only [Act.put, List.setIfInBounds_toArray, List.set_cons_zero, List.set_cons_succ, i64_w, i32_w]
        rfl
      refine pure_ (i := 13) (N := some 137) (v := ?_) (a' := ?_) #[true, true, true, true, true, true, true, true, true, true, true, true, false, true, false, false, false, false, false, false, false, false, false, false, false, false, false, false, false, false, false, false, false, false, false, false, false, false, false, false, false, false, false, false, false, false, false, false, false, false, false, false, false, false] rfl rfl (any_of HT_.out (by kernel_rfl)) (fun _ _ _ h => h) (Or.inl ⟨by rfl, ?_⟩) ?_ ?_
      rotate_left
      · intro w'
        go_simp
        with_reducible rfl
      rotate_left
      · simp only [Act.put, List.setIfInBounds_toArray, List.set_cons_zero, List.set_cons_succ, i64_w, i32_w]
        rfl
      refine pure_ (i := 14) (N := some 138) (v := ?_) (a' := ?_) #[true, true, true, true, true, true, true, true, true, true, true, true, false, true, true, false, false, false, false, false, false, false, false, false, false, false, false, false, false, false, false, false, false, false, false, false, false, false, false, false, false, false, false, false, false, false, false, false, false, false, false, false, false, false] rfl rfl (any_of HT_.out (by kernel_rfl)) (fun _ _ _ h => h) (Or.inl ⟨by rfl, ?_⟩) ?_ ?_
      rotate_left
      · intro w'
        go_simp
        with_reducible rfl
      rotate_left
      · simp only [Act.put, List.setIfInBounds_toArray, List.set_cons_zero, List.set_cons_succ, i64_w, i32_w]
        rfl
      refine pure_ (i := 15) (N := some 139) (v := ?_) (a' := ?_) #[true, true, true, true, true, true, true, true, true, true, true, true, false, true, true, true, false, false, false, false, false, false, false, false, false, false, false, false, false, false, false, false, false, false, false, false, false, false, false, false, false, false, false, false, false, false, false, false, false, false, false, false, false, false] rfl rfl (any_of HT_.out (by kernel_rfl)) (fun _ _ _ h => h) (Or.inl ⟨by rfl, ?_⟩) ?_ ?_
      rotate_left
      · intro w'
        go_simp
        with_reducible rfl
      rotate_left
      · simp only [Act.put, List.setIfInBounds_toArray, List.set_cons_zero, List.set_cons_succ, i64_w, i32_w]
        rfl
      refine take_ (i := 12) (N := some 136) (v := ?_) (a' := ?_) #[true, true, true, true, true, true, true, true, true, true, true, true, true, true, true, true, false, false, false, false, false, false, false, false, false, false, false, false, false, false, false, false, false, false, false, false, false, false, false, false, false, false, false, false, false, false, false, false, false, false, false, false, false, false] rfl rfl (take_ofW HT_.out HW_.out (by kernel_rfl)) (fun _ _ _ h => h) (Or.inl ⟨by rfl, ?_⟩) hHeld ?_ ?_
      rotate_left
      · rintro w' ⟨s0, s1, s2, s3, s4, s5, s6, s7, s8, s9, s10, s11, s12, s13, s14, s15, s16, s17, s18, s19, s20, s21, s22, s23, s24, s25, s26, s27, s28, s29, s30, s31, s32, s33, s34, s35, s36, s37, s38, s39, s40, s41, s42, s43, s44⟩
        go_simp
        with_reducible rfl
      rotate_left
      · simp only [Act.put, List.setIfInBounds_toArray, List.set_cons_zero, List.set_cons_succ, i64_w, i32_w]
        rfl
      refine take_ (i := 16) (N := some 140) (v := ?_) (a' := ?_) #[true, true, true, true, true, true, true, true, true, true, true, true, true, true, true, true, true, false, false, false, false, false, false, false, false, false, false, false, false, false, false, false, false, false, false, false, false, false, false, false, false, false, false, false, false, false, false, false, false, false, false, false, false, false] rfl rfl (take_ofW HT_.out HW_.out (by kernel_rfl)) (fun _ _ _ h => h) (Or.inl ⟨by rfl, ?_⟩) hHeld ?_ ?_
      rotate_left
      · rintro w' ⟨s0, s1, s2, s3, s4, s5, s6, s7, s8, s9, s10, s11, s12, s13, s14, s15, s16, s17, s18, s19, s20, s21, s22, s23, s24, s25, s26, s27, s28, s29, s30, s31, s32, s33, s34, s35, s36, s37, s38, s39, s40, s41, s42, s43, s44⟩
        go_simp
        with_reducible rfl
      rotate_left
      · simp only [Act.put, List.setIfInBounds_toArray, List.set_cons_zero, List.set_cons_succ, i64_w, i32_w]
        rfl
      refine one_ (i := 17) (N := some 141) #[true, true, true, true, true, true, true, true, true, true, true, true, true, true, true, true, true, true, false, false, false, false, false, false, false, false, false, false, false, false, false, false, false, false, false, false, false, false, false, false, false, false, false, false, false, false, false, false, false, false, false, false, false, false] rfl rfl (one_of HT_.out (by kernel_rfl)) (by decide) (fun K hK => ?_)
      refine goes_ Tryd.func18 (by kernel_rfl) rfl #[.agg #[.int .u64 ((rd_T35 t237 0).f2.f0), .int .u64 ((rd_T35 t237 0).f2.f1), .int .u64 ((rd_T35 t237 0).f2.f2), .int .u64 ((rd_T35 t237 0).f2.f3)]] (by rfl) rfl rfl (by (try simp only [List.map_toArray, List.map_cons, List.map_nil]); first | done | rfl | (simp only [List.length_drop, List.length_take]; rfl)) ?_
      with_reducible refine (scantlingref01_Not.calls kj34 ((rd_T35 t237 0).f2.f0) ((rd_T35 t237 0).f2.f1) ((rd_T35 t237 0).f2.f2) ((rd_T35 t237 0).f2.f3) t264 t265 t266 t267 _ A77.out).mono ?_
      rintro e w92 ⟨rfl, hb⟩
      have HS_ := hsA hb hHeld fun h => hsA hb h fun h => hsA hb h fun h => hsA hb h fun h => hsA hb h fun h => hsA hb h fun h => hsA hb h fun h => hsA hb h fun h => hsA hb h fun h => hsA hb h fun h => hsA hb h fun h => hsA hb h fun h => hsA hb h fun h => hsA hb h fun h => hsA hb h fun h => hsA hb h fun h => hsA hb h fun h => hsA hb h fun h => hsA hb h fun h => hsA hb h fun h => hsA hb h fun h => hsA hb h fun h => hsA hb h fun h => hsA hb h fun h => hsA hb h fun h => hsA hb h fun h => hsA hb h fun h => hsA hb h fun h => hsA hb h fun h => hsA hb h fun h => hsA hb h fun h => hsA hb h fun h => hsA hb h fun h => hsA hb h fun h => hsA hb h fun h => hsA hb h fun h => hsA hb h fun h => hsA hb h fun h => hsA hb h fun h => hsA hb h fun h => hsA hb h fun h => hsA hb h fun h => hsA hb h fun h => hsA hb h fun h => hsc hb h
      refine ⟨_, rfl, ?_⟩
      have n0_ := Aside0.mk (Kd.R_below (by (with_reducible repeat (first | apply Kd.R_alloc | apply Kd.R_drewN | apply Kd.R_drew)); exact HO_8.out) hb)
      have n1_ := Aside0.mk (Kd.R_below (by (with_reducible repeat (first | apply Kd.R_alloc | apply Kd.R_drewN | apply Kd.R_drew)); exact HO_11.out) hb)
      have n2_ := Aside0.mk (Kd.R_below (by (with_reducible repeat (first | apply Kd.R_alloc | apply Kd.R_drewN | apply Kd.R_drew)); exact HO_14.out) hb)
      have n3_ := Aside0.mk (Kd.R_below (by (with_reducible repeat (first | apply Kd.R_alloc | apply Kd.R_drewN | apply Kd.R_drew)); exact HO_17.out) hb)
      have n4_ := Aside0.mk (below_step (belx HB) hb)
      clear HO_8
      clear HO_11
      clear HO_14
      clear HO_17
      clear HB
      have HO_8 := n0_
      have HO_11 := n1_
      have HO_14 := n2_
      have HO_17 := n3_
      have HB := n4_
      clear n0_ n1_ n2_ n3_ n4_
      (try clear hb)
      (try clear hb2)
      (try clear hk)
      (try clear hi)
      obtain ⟨Ao93, co93, eo93⟩ := Kd.R_slice HO_17.out
      (first | subst eo93 | (injection eo93 with f1_ f2_ f3_; have f4_ := f1_.symm; have f5_ := f3_.symm; clear f1_ f2_ f3_; subst f4_; subst f5_))
      refine hK.out _ _ HS_ (fun hHeld => ?_)
      clear hK K
      refine norm_ (a' := ?_) ?_ ?_
      rotate_left
      · show Act.put _ (some 141) _ = _
        simp only [Act.put, List.setIfInBounds_toArray, List.set_cons_zero, List.set_cons_succ, i64_w, i32_w]
        rfl
      refine pure_ (i := 18) (N := some 142) (v := ?_) (a' := ?_) #[true, true, true, true, true, true, true, true, true, true, true, true, true, true, true, true, true, true, true, false, false, false, false, false, false, false, false, false, false, false, false, false, false, false, false, false, false, false, false, false, false, false, false, false, false, false, false, false, false, false, false, false, false, false] rfl rfl (any_of HT_.out (by kernel_rfl)) (fun _ _ _ h => h) (Or.inl ⟨by rfl, ?_⟩) ?_ ?_
      rotate_left
      · intro w'
        go_simp
        with_reducible rfl
      rotate_left
      · simp only [Act.put, List.setIfInBounds_toArray, List.set_cons_zero, List.set_cons_succ, i64_w, i32_w]
        rfl
      refine pure_ (i := 19) (N := some 143) (v := ?_) (a' := ?_) #[true, true, true, true, true, true, true, true, true, true, true, true, true, true, true, true, true, true, true, true, false, false, false, false, false, false, false, false, false, false, false, false, false, false, false, false, false, false, false, false, false, false, false, false, false, false, false, false, false, false, false, false, false, false] rfl rfl (any_of HT_.out (by kernel_rfl)) (fun _ _ _ h => h) (Or.inl ⟨by rfl, ?_⟩) ?_ ?_
      rotate_left
      · intro w'
        go_simp
        with_reducible rfl
      rotate_left
      · simp only [Act.put, List.setIfInBounds_toArray, List.set_cons_zero, List.set_cons_succ, i64_w, i32_w]
        rfl
      refine pure_ (i := 20) (N := some 144) (v := ?_) (a' := ?_) #[true, true, true, true, true, true, true, true, true, true, true, true, true, true, true, true, true, true, true, true, true, false, false, false, false, false, false, false, false, false, false, false, false, false, false, false, false, false, false, false, false, false, false, false, false, false, false, false, false, false, false, false, false, false] rfl rfl (any_of HT_.out (by kernel_rfl)) (fun _ _ _ h => h) (Or.inl ⟨by rfl, ?_⟩) ?_ ?_
      rotate_left
      · intro w'
        go_simp
        with_reducible rfl
      rotate_left
      · simp only [Act.put, List.setIfInBounds_toArray, List.set_cons_zero, List.set_cons_succ, i64_w, i32_w]
        rfl
      refine pure_ (i := 21) (N := some 145) (v := ?_) (a' := ?_) #[true, true, true, true, true, true, true, true, true, true, true, true, true, true, true, true, true, true, true, true, true, true, false, false, false, false, false, false, false, false, false, false, false, false, false, false, false, false, false, false, false, false, false, false, false, false, false, false, false, false, false, false, false, false] rfl rfl (any_of HT_.out (by kernel_rfl)) (fun _ _ _ h => h) (Or.inl ⟨by rfl, ?_⟩) ?_ ?_
      rotate_left
      · intro w'
        go_simp
        with_reducible rfl
      rotate_left
      · simp only [Act.put, List.setIfInBounds_toArray, List.set_cons_zero, List.set_cons_succ, i64_w, i32_w]
        rfl
      refine pure_ (i := 22) (N := some 146) (v := ?_) (a' := ?_) #[true, true, true, true, true, true, true, true, true, true, true, true, true, true, true, true, true, true, true, true, true, true, true, false, false, false, false, false, false, false, false, false, false, false, false, false, false, false, false, false, false, false, false, false, false, false, false, false, false, false, false, false, false, false] rfl rfl (any_of HT_.out (by kernel_rfl)) (fun _ _ _ h => h) (Or.inl ⟨by rfl, ?_⟩) ?_ ?_
      rotate_left
      · intro w'
        go_simp
        with_reducible rfl
      rotate_left
      · simp only [Act.put, List.setIfInBounds_toArray, List.set_cons_zero, List.set_cons_succ, i64_w, i32_w]
        rfl
      refine pure_ (i := 23) (N := some 147) (v := ?_) (a' := ?_) #[true, true, true, true, true, true, true, true, true, true, true, true, true, true, true, true, true, true, true, true, true, true, true, true, false, false, false, false, false, false, false, false, false, false, false, false, false, false, false, false, false, false, false, false, false, false, false, false, false, false, false, false, false, false] rfl rfl (any_of HT_.out (by kernel_rfl)) (fun _ _ _ h => h) (Or.inl ⟨by rfl, ?_⟩) ?_ ?_
      rotate_left
      · intro w'
        go_simp
        with_reducible rfl
      rotate_left
      · simp only [Act.put, List.setIfInBounds_toArray, List.set_cons_zero, List.set_cons_succ, i64_w, i32_w]
        rfl
      refine pure_ (i := 25) (N := some 149) (v := ?_) (a' := ?_) #[true, true, true, true, true, true, true, true, true, true, true, true, true, true, true, true, true, true, true, true, true, true, true, true, false, true, false, false, false, false, false, false, false, false, false, false, false, false, false, false, false, false, false, false, false, false, false, false, false, false, false, false, false, false] rfl rfl (any_of HT_.out (by kernel_rfl)) (fun _ _ _ h => h) (Or.inl ⟨by rfl, ?_⟩) ?_ ?_
      rotate_left
      · intro w'
        go_simp
        with_reducible rfl
      rotate_left
      · simp only [Act.put, List.setIfInBounds_toArray, List.set_cons_zero, List.set_cons_succ, i64_w, i32_w]
        rfl
      refine pure_ (i := 26) (N := some 150) (v := ?_) (a' := ?_) #[true, true, true, true, true, true, true, true, true, true, true, true, true, true, true, true, true, true, true, true, true, true, true, true, false, true, true, false, false, false, false, false, false, false, false, false, false, false, false, false, false, false, false, false, false, false, false, false, false, false, false, false, false, false] rfl rfl (any_of HT_.out (by kernel_rfl)) (fun _ _ _ h => h) (Or.inl ⟨by rfl, ?_⟩) ?_ ?_
      rotate_left
      · intro w'
        go_simp
        with_reducible rfl
      rotate_left
      · simp only [Act.put, List.setIfInBounds_toArray, List.set_cons_zero, List.set_cons_succ, i64_w, i32_w]
        rfl
      refine pure_ (i := 28) (N := some 152) (v := ?_) (a' := ?_) #[true, true, true, true, true, true, true, true, true, true, true, true, true, true, true, true, true, true, true, true, true, true, true, true, false, true, true, false, true, false, false, false, false, false, false, false, false, false, false, false, false, false, false, false, false, false, false, false, false, false, false, false, false, false] rfl rfl (any_of HT_.out (by kernel_rfl)) (fun _ _ _ h => h) (Or.inl ⟨by rfl, ?_⟩) ?_ ?_
      rotate_left
      · intro w'
        go_simp
        with_reducible rfl
      rotate_left
      · simp only [Act.put, List.setIfInBounds_toArray, List.set_cons_zero, List.set_cons_succ, i64_w, i32_w]
        rfl
      refine pure_ (i := 29) (N := some 153) (v := ?_) (a' := ?_) #[true, true, true, true, true, true, true, true, true, true, true, true, true, true, true, true, true, true, true, true, true, true, true, true, false, true, true, false, true, true, false, false, false, false, false, false, false, false, false, false, false, false, false, false, false, false, false, false, false, false, false, false, false, false] rfl rfl (any_of HT_.out (by kernel_rfl)) (fun _ _ _ h => h) (Or.inl ⟨by rfl, ?_⟩) ?_ ?_
      rotate_left
      · intro w'
        go_simp
        with_reducible rfl
      rotate_left
      · simp only [Act.put, List.setIfInBounds_toArray, List.set_cons_zero, List.set_cons_succ, i64_w, i32_w]
        rfl
      refine take_ (i := 24) (N := some 148) (v := ?_) (a' := ?_) #[true, true, true, true, true, true, true, true, true, true, true, true, true, true, true, true, true, true, true, true, true, true, true, true, true, true, true, false, true, true, false, false, false, false, false, false, false, false, false, false, false, false, false, false, false, false, false, false, false, false, false, false, false, false] rfl rfl (take_ofW HT_.out HW_.out (by kernel_rfl)) (fun _ _ _ h => h) (Or.inl ⟨by rfl, ?_⟩) hHeld ?_ ?_
      rotate_left
      · rintro w' ⟨s0, s1, s2, s3, s4, s5, s6, s7, s8, s9, s10, s11, s12, s13, s14, s15, s16, s17, s18, s19, s20, s21, s22, s23, s24, s25, s26, s27, s28, s29, s30, s31, s32, s33, s34, s35, s36, s37, s38, s39, s40, s41, s42, s43, s44⟩
        go_simp
        with_reducible rfl
      rotate_left
      · simp only [Act.put, List.setIfInBounds_toArray, List.set_cons_zero, List.set_cons_succ, i64_w, i32_w]
        rfl
      refine one_ (i := 27) (N := some 151) #[true, true, true, true, true, true, true, true, true, true, true, true, true, true, true, true, true, true, true, true, true, true, true, true, true, true, true, true, true, true, false, false, false, false, false, false, false, false, false, false, false, false, false, false, false, false, false, false, false, false, false, false, false, false] rfl rfl (one_of HT_.out (by kernel_rfl)) (by decide) (fun K hK => ?_)
      refine goes_ Tryd.func17 (by kernel_rfl) rfl #[.int .u8 a0, .int .u8 a0] (by rfl) rfl rfl (by (try simp only [List.map_toArray, List.map_cons, List.map_nil]); first | done | rfl | (simp only [List.length_drop, List.length_take]; rfl)) ?_
      with_reducible refine (scantlingref01_Row.calls kj34 a0 a0 t269 t270 t271 t272 _ A80.out).mono ?_
      rintro e w94 ⟨rfl, hb⟩
      have HS_ := hsA hb hHeld fun h => hsA hb h fun h => hsA hb h fun h => hsA hb h fun h => hsA hb h fun h => hsA hb h fun h => hsA hb h fun h => hsA hb h fun h => hsA hb h fun h => hsA hb h fun h => hsA hb h fun h => hsA hb h fun h => hsA hb h fun h => hsA hb h fun h => hsA hb h fun h => hsA hb h fun h => hsA hb h fun h => hsA hb h fun h => hsA hb h fun h => hsA hb h fun h => hsA hb h fun h => hsA hb h fun h => hsA hb h fun h => hsA hb h fun h => hsA hb h fun h => hsA hb h fun h => hsA hb h fun h => hsA hb h fun h => hsA hb h fun h => hsA hb h fun h => hsA hb h fun h => hsA hb h fun h => hsA hb h fun h => hsA hb h fun h => hsA hb h fun h => hsA hb h fun h => hsA hb h fun h => hsA hb h fun h => hsA hb h fun h => hsA hb h fun h => hsA hb h fun h => hsA hb h fun h => hsA hb h fun h => hsA hb h fun h => hsc hb h
      refine ⟨_, rfl, ?_⟩
      have n0_ := Aside0.mk (Kd.R_below (by (with_reducible repeat (first | apply Kd.R_alloc | apply Kd.R_drewN | apply Kd.R_drew)); exact HO_8.out) hb)
      have n1_ := Aside0.mk (Kd.R_below (by (with_reducible repeat (first | apply Kd.R_alloc | apply Kd.R_drewN | apply Kd.R_drew)); exact HO_11.out) hb)
      have n2_ := Aside0.mk (Kd.R_below (by (with_reducible repeat (first | apply Kd.R_alloc | apply Kd.R_drewN | apply Kd.R_drew)); exact HO_14.out) hb)
      have n3_ := Aside0.mk (Kd.R_below (by (with_reducible repeat (first | apply Kd.R_alloc | apply Kd.R_drewN | apply Kd.R_drew)); exact HO_17.out) hb)
      have n4_ := Aside0.mk (below_step (belx HB) hb)
      clear HO_8
      clear HO_11
      clear HO_14
      clear HO_17
      clear HB
      have HO_8 := n0_
      have HO_11 := n1_
      have HO_14 := n2_
      have HO_17 := n3_
      have HB := n4_
      clear n0_ n1_ n2_ n3_ n4_
      (try clear hb)
      (try clear hb2)
      (try clear hk)
      (try clear hi)
      refine hK.out _ _ HS_ (fun hHeld => ?_)
      clear hK K
      refine norm_ (a' := ?_) ?_ ?_
      rotate_left
      · show Act.put _ (some 151) _ = _
        simp only [Act.put, List.setIfInBounds_toArray, List.set_cons_zero, List.set_cons_succ, i64_w, i32_w]
        rfl
      refine one_ (i := 30) (N := some 154) #[true, true, true, true, true, true, true, true, true, true, true, true, true, true, true, true, true, true, true, true, true, true, true, true, true, true, true, true, true, true, true, false, false, false, false, false, false, false, false, false, false, false, false, false, false, false, false, false, false, false, false, false, false, false] rfl rfl (one_of HT_.out (by kernel_rfl)) (by decide) (fun K hK => ?_)
      refine goes_ Tryd.func17 (by kernel_rfl) rfl #[.int .u8 a1, .int .u8 a1] (by rfl) rfl rfl (by (try simp only [List.map_toArray, List.map_cons, List.map_nil]); first | done | rfl | (simp only [List.length_drop, List.length_take]; rfl)) ?_
      with_reducible refine (scantlingref01_Row.calls kj34 a1 a1 t273 t274 t275 t276 _ A81.out).mono ?_
      rintro e w95 ⟨rfl, hb⟩
      have HS_ := hsA hb hHeld fun h => hsA hb h fun h => hsA hb h fun h => hsA hb h fun h => hsA hb h fun h => hsA hb h fun h => hsA hb h fun h => hsA hb h fun h => hsA hb h fun h => hsA hb h fun h => hsA hb h fun h => hsA hb h fun h => hsA hb h fun h => hsA hb h fun h => hsA hb h fun h => hsA hb h fun h => hsA hb h fun h => hsA hb h fun h => hsA hb h fun h => hsA hb h fun h => hsA hb h fun h => hsA hb h fun h => hsA hb h fun h => hsA hb h fun h => hsA hb h fun h => hsA hb h fun h => hsA hb h fun h => hsA hb h fun h => hsA hb h fun h => hsA hb h fun h => hsA hb h fun h => hsA hb h fun h => hsA hb h fun h => hsA hb h fun h => hsA hb h fun h => hsA hb h fun h => hsA hb h fun h => hsA hb h fun h => hsA hb h fun h => hsA hb h fun h => hsA hb h fun h => hsA hb h fun h => hsA hb h fun h => hsA hb h fun h => hsc hb h
      refine ⟨_, rfl, ?_⟩
      have n0_ := Aside0.mk (Kd.R_below (by (with_reducible repeat (first | apply Kd.R_alloc | apply Kd.R_drewN | apply Kd.R_drew)); exact HO_8.out) hb)
      have n1_ := Aside0.mk (Kd.R_below (by (with_reducible repeat (first | apply Kd.R_alloc | apply Kd.R_drewN | apply Kd.R_drew)); exact HO_11.out) hb)
      have n2_ := Aside0.mk (Kd.R_below (by (with_reducible repeat (first | apply Kd.R_alloc | apply Kd.R_drewN | apply Kd.R_drew)); exact HO_14.out) hb)
      have n3_ := Aside0.mk (Kd.R_below (by (with_reducible repeat (first | apply Kd.R_alloc | apply Kd.R_drewN | apply Kd.R_drew)); exact HO_17.out) hb)
      have n4_ := Aside0.mk (below_step (belx HB) hb)
      clear HO_8
      clear HO_11
      clear HO_14
      clear HO_17
      clear HB
      have HO_8 := n0_
      have HO_11 := n1_
      have HO_14 := n2_
      have HO_17 := n3_
      have HB := n4_
      clear n0_ n1_ n2_ n3_ n4_
      (try clear hb)
      (try clear hb2)
      (try clear hk)
      (try clear hi)
      refine hK.out _ _ HS_ (fun hHeld => ?_)
      clear hK K
      refine norm_ (a' := ?_) ?_ ?_
      rotate_left
      · show Act.put _ (some 154) _ = _
        simp only [Act.put, List.setIfInBounds_toArray, List.set_cons_zero, List.set_cons_succ, i64_w, i32_w]
        rfl
      refine one_ (i := 31) (N := some 155) #[true, true, true, true, true, true, true, true, true, true, true, true, true, true, true, true, true, true, true, true, true, true, true, true, true, true, true, true, true, true, true, true, false, false, false, false, false, false, false, false, false, false, false, false, false, false, false, false, false, false, false, false, false, false] rfl rfl (one_of HT_.out (by kernel_rfl)) (by decide) (fun K hK => ?_)
      refine goes_ Tryd.func19 (by kernel_rfl) rfl #[.agg #[.int .u64 t269, .int .u64 t270, .int .u64 t271, .int .u64 t272], .agg #[.int .u64 t273, .int .u64 t274, .int .u64 t275, .int .u64 t276]] (by rfl) rfl rfl (by (try simp only [List.map_toArray, List.map_cons, List.map_nil]); first | done | rfl | (simp only [List.length_drop, List.length_take]; rfl)) ?_
      with_reducible refine (scantlingref01_Join.calls kj34 t269 t270 t271 t272 t273 t274 t275 t276 t277 t278 t279 t280 _ A82.out).mono ?_
      rintro e w96 ⟨rfl, hb⟩
      have HS_ := hsA hb hHeld fun h => hsA hb h fun h => hsA hb h fun h => hsA hb h fun h => hsA hb h fun h => hsA hb h fun h => hsA hb h fun h => hsA hb h fun h => hsA hb h fun h => hsA hb h fun h => hsA hb h fun h => hsA hb h fun h => hsA hb h fun h => hsA hb h fun h => hsA hb h fun h => hsA hb h fun h => hsA hb h fun h => hsA hb h fun h => hsA hb h fun h => hsA hb h fun h => hsA hb h fun h => hsA hb h fun h => hsA hb h fun h => hsA hb h fun h => hsA hb h fun h => hsA hb h fun h => hsA hb h fun h => hsA hb h fun h => hsA hb h fun h => hsA hb h fun h => hsA hb h fun h => hsA hb h fun h => hsA hb h fun h => hsA hb h fun h => hsA hb h fun h => hsA hb h fun h => hsA hb h fun h => hsA hb h fun h => hsA hb h fun h => hsA hb h fun h => hsA hb h fun h => hsA hb h fun h => hsA hb h fun h => hsA hb h fun h => hsc hb h
      refine ⟨_, rfl, ?_⟩
      have n0_ := Aside0.mk (Kd.R_below (by (with_reducible repeat (first | apply Kd.R_alloc | apply Kd.R_drewN | apply Kd.R_drew)); exact HO_8.out) hb)
      have n1_ := Aside0.mk (Kd.R_below (by (with_reducible repeat (first | apply Kd.R_alloc | apply Kd.R_drewN | apply Kd.R_drew)); exact HO_11.out) hb)
      have n2_ := Aside0.mk (Kd.R_below (by (with_reducible repeat (first | apply Kd.R_alloc | apply Kd.R_drewN | apply Kd.R_drew)); exact HO_14.out) hb)
      have n3_ := Aside0.mk (Kd.R_below (by (with_reducible repeat (first | apply Kd.R_alloc | apply Kd.R_drewN | apply Kd.R_drew)); exact HO_17.out) hb)
      have n4_ := Aside0.mk (below_step (belx HB) hb)
      clear HO_8
      clear HO_11
      clear HO_14
      clear HO_17
      clear HB
      have HO_8 := n0_
      have HO_11 := n1_
      have HO_14 := n2_
      have HO_17 := n3_
      have HB := n4_
      clear n0_ n1_ n2_ n3_ n4_
      (try clear hb)
      (try clear hb2)
      (try clear hk)
      (try clear hi)
      obtain ⟨Ao97, co97, eo97⟩ := Kd.R_slice HO_14.out
      (first | subst eo97 | (injection eo97 with f1_ f2_ f3_; have f4_ := f1_.symm; have f5_ := f3_.symm; clear f1_ f2_ f3_; subst f4_; subst f5_))
      refine hK.out _ _ HS_ (fun hHeld => ?_)
      clear hK K
      refine norm_ (a' := ?_) ?_ ?_
      rotate_left
      · show Act.put _ (some 155) _ = _
        simp only [Act.put, List.setIfInBounds_toArray, List.set_cons_zero, List.set_cons_succ, i64_w, i32_w]
        rfl
      refine pure_ (i := 32) (N := some 156) (v := ?_) (a' := ?_) #[true, true, true, true, true, true, true, true, true, true, true, true, true, true, true, true, true, true, true, true, true, true, true, true, true, true, true, true, true, true, true, true, true, false, false, false, false, false, false, false, false, false, false, false, false, false, false, false, false, false, false, false, false, false] rfl rfl (any_of HT_.out (by kernel_rfl)) (fun _ _ _ h => h) (Or.inl ⟨by rfl, ?_⟩) ?_ ?_
      rotate_left
      · intro w'
        go_simp
        with_reducible rfl
      rotate_left
      · simp only [Act.put, List.setIfInBounds_toArray, List.set_cons_zero, List.set_cons_succ, i64_w, i32_w]
        rfl
      refine pure_ (i := 33) (N := some 157) (v := ?_) (a' := ?_) #[true, true, true, true, true, true, true, true, true, true, true, true, true, true, true, true, true, true, true, true, true, true, true, true, true, true, true, true, true, true, true, true, true, true, false, false, false, false, false, false, false, false, false, false, false, false, false, false, false, false, false, false, false, false] rfl rfl (any_of HT_.out (by kernel_rfl)) (fun _ _ _ h => h) (Or.inl ⟨by rfl, ?_⟩) ?_ ?_
      rotate_left
      · intro w'
        go_simp
        with_reducible rfl
      rotate_left
      · simp only [Act.put, List.setIfInBounds_toArray, List.set_cons_zero, List.set_cons_succ, i64_w, i32_w]
        rfl
      refine pure_ (i := 34) (N := some 158) (v := ?_) (a' := ?_) #[true, true, true, true, true, true, true, true, true, true, true, true, true, true, true, true, true, true, true, true, true, true, true, true, true, true, true, true, true, true, true, true, true, true, true, false, false, false, false, false, false, false, false, false, false, false, false, false, false, false, false, false, false, false] rfl rfl (any_of HT_.out (by kernel_rfl)) (fun _ _ _ h => h) (Or.inl ⟨by rfl, ?_⟩) ?_ ?_
      rotate_left
      · intro w'
        go_simp
        with_reducible rfl
      rotate_left
      · simp only [Act.put, List.setIfInBounds_toArray, List.set_cons_zero, List.set_cons_succ, i64_w, i32_w]
        rfl
      refine pure_ (i := 35) (N := some 159) (v := ?_) (a' := ?_) #[true, true, true, true, true, true, true, true, true, true, true, true, true, true, true, true, true, true, true, true, true, true, true, true, true, true, true, true, true, true, true, true, true, true, true, true, false, false, false, false, false, false, false, false, false, false, false, false, false, false, false, false, false, false] rfl rfl (any_of HT_.out (by kernel_rfl)) (fun _ _ _ h => h) (Or.inl ⟨by rfl, ?_⟩) ?_ ?_
      rotate_left
      · intro w'
        go_simp
        with_reducible rfl
      rotate_left
      · simp only [Act.put, List.setIfInBounds_toArray, List.set_cons_zero, List.set_cons_succ, i64_w, i32_w]
        rfl
      refine pure_ (i := 36) (N := some 160) (v := ?_) (a' := ?_) #[true, true, true, true, true, true, true, true, true, true, true, true, true, true, true, true, true, true, true, true, true, true, true, true, true, true, true, true, true, true, true, true, true, true, true, true, true, false, false, false, false, false, false, false, false, false, false, false, false, false, false, false, false, false] rfl rfl (any_of HT_.out (by kernel_rfl)) (fun _ _ _ h => h) (Or.inl ⟨by rfl, ?_⟩) ?_ ?_
      rotate_left
      · intro w'
        go_simp
        with_reducible rfl
      rotate_left
      · simp only [Act.put, List.setIfInBounds_toArray, List.set_cons_zero, List.set_cons_succ, i64_w, i32_w]
        rfl
      refine pure_ (i := 37) (N := some 161) (v := ?_) (a' := ?_) #[true, true, true, true, true, true, true, true, true, true, true, true, true, true, true, true, true, true, true, true, true, true, true, true, true, true, true, true, true, true, true, true, true, true, true, true, true, true, false, false, false, false, false, false, false, false, false, false, false, false, false, false, false, false] rfl rfl (any_of HT_.out (by kernel_rfl)) (fun _ _ _ h => h) (Or.inl ⟨by rfl, ?_⟩) ?_ ?_
      rotate_left
      · intro w'
        go_simp
        with_reducible rfl
      rotate_left
      · simp only [Act.put, List.setIfInBounds_toArray, List.set_cons_zero, List.set_cons_succ, i64_w, i32_w]
        rfl
      refine pure_ (i := 38) (N := some 162) (v := ?_) (a' := ?_) #[true, true, true, true, true, true, true, true, true, true, true, true, true, true, true, true, true, true, true, true, true, true, true, true, true, true, true, true, true, true, true, true, true, true, true, true, true, true, true, false, false, false, false, false, false, false, false, false, false, false, false, false, false, false] rfl rfl (any_of HT_.out (by kernel_rfl)) (fun _ _ _ h => h) (Or.inl ⟨by rfl, ?_⟩) ?_ ?_
      rotate_left
      · intro w'
        go_simp
        with_reducible rfl
      rotate_left
      · simp only [Act.put, List.setIfInBounds_toArray, List.set_cons_zero, List.set_cons_succ, i64_w, i32_w]
        rfl
      refine pure_ (i := 39) (N := some 163) (v := ?_) (a' := ?_) #[true, true, true, true, true, true, true, true, true, true, true, true, true, true, true, true, true, true, true, true, true, true, true, true, true, true, true, true, true, true, true, true, true, true, true, true, true, true, true, true, false, false, false, false, false, false, false, false, false, false, false, false, false, false] rfl rfl (any_of HT_.out (by kernel_rfl)) (fun _ _ _ h => h) (Or.inl ⟨by rfl, ?_⟩) ?_ ?_
      rotate_left
      · intro w'
        go_simp
        with_reducible rfl
      rotate_left
      · simp only [Act.put, List.setIfInBounds_toArray, List.set_cons_zero, List.set_cons_succ, i64_w, i32_w]
        rfl
      refine pure_ (i := 40) (N := some 164) (v := ?_) (a' := ?_) #[true, true, true, true, true, true, true, true, true, true, true, true, true, true, true, true, true, true, true, true, true, true, true, true, true, true, true, true, true, true, true, true, true, true, true, true, true, true, true, true, true, false, false, false, false, false, false, false, false, false, false, false, false, false] rfl rfl (any_of HT_.out (by kernel_rfl)) (fun _ _ _ h => h) (Or.inl ⟨by rfl, ?_⟩) ?_ ?_
      rotate_left
      · intro w'
        go_simp
        with_reducible rfl
      rotate_left
      · simp only [Act.put, List.setIfInBounds_toArray, List.set_cons_zero, List.set_cons_succ, i64_w, i32_w]
        rfl
      refine pure_ (i := 41) (N := some 165) (v := ?_) (a' := ?_) #[true, true, true, true, true, true, true, true, true, true, true, true, true, true, true, true, true, true, true, true, true, true, true, true, true, true, true, true, true, true, true, true, true, true, true, true, true, true, true, true, true, true, false, false, false, false, false, false, false, false, false, false, false, false] rfl rfl (any_of HT_.out (by kernel_rfl)) (fun _ _ _ h => h) (Or.inl ⟨by rfl, ?_⟩) ?_ ?_
      rotate_left
      · intro w'
        go_simp
        with_reducible rfl
      rotate_left
      · simp only [Act.put, List.setIfInBounds_toArray, List.set_cons_zero, List.set_cons_succ, i64_w, i32_w]
        rfl
      refine pure_ (i := 42) (N := some 166) (v := ?_) (a' := ?_) #[true, true, true, true, true, true, true, true, true, true, true, true, true, true, true, true, true, true, true, true, true, true, true, true, true, true, true, true, true, true, true, true, true, true, true, true, true, true, true, true, true, true, true, false, false, false, false, false, false, false, false, false, false, false] rfl rfl (any_of HT_.out (by kernel_rfl)) (fun _ _ _ h => h) (Or.inl ⟨by rfl, ?_⟩) ?_ ?_
      rotate_left
      · intro w'
        go_simp
        with_reducible rfl
      rotate_left
      · simp only [Act.put, List.setIfInBounds_toArray, List.set_cons_zero, List.set_cons_succ, i64_w, i32_w]
        rfl
      refine pure_ (i := 43) (N := some 167) (v := ?_) (a' := ?_) #[true, true, true, true, true, true, true, true, true, true, true, true, true, true, true, true, true, true, true, true, true, true, true, true, true, true, true, true, true, true, true, true, true, true, true, true, true, true, true, true, true, true, true, true, false, false, false, false, false, false, false, false, false, false] rfl rfl (any_of HT_.out (by kernel_rfl)) (fun _ _ _ h => h) (Or.inl ⟨by rfl, ?_⟩) ?_ ?_
      rotate_left
      · intro w'
        go_simp
        with_reducible rfl
      rotate_left
      · simp only [Act.put, List.setIfInBounds_toArray, List.set_cons_zero, List.set_cons_succ, i64_w, i32_w]
        rfl
      refine pure_ (i := 44) (N := some 168) (v := ?_) (a' := ?_) #[true, true, true, true, true, true, true, true, true, true, true, true, true, true, true, true, true, true, true, true, true, true, true, true, true, true, true, true, true, true, true, true, true, true, true, true, true, true, true, true, true, true, true, true, true, false, false, false, false, false, false, false, false, false] rfl rfl (any_of HT_.out (by kernel_rfl)) (fun _ _ _ h => h) (Or.inl ⟨by rfl, ?_⟩) ?_ ?_
      rotate_left
      · intro w'
        go_simp
        with_reducible rfl
      rotate_left
      · simp only [Act.put, List.setIfInBounds_toArray, List.set_cons_zero, List.set_cons_succ, i64_w, i32_w]
        rfl
      refine pure_ (i := 46) (N := some 170) (v := ?_) (a' := ?_) #[true, true, true, true, true, true, true, true, true, true, true, true, true, true, true, true, true, true, true, true, true, true, true, true, true, true, true, true, true, true, true, true, true, true, true, true, true, true, true, true, true, true, true, true, true, false, true, false, false, false, false, false, false, false] rfl rfl (any_of HT_.out (by kernel_rfl)) (fun _ _ _ h => h) (Or.inl ⟨by rfl, ?_⟩) ?_ ?_
      rotate_left
      · intro w'
        go_simp
        with_reducible rfl
      rotate_left
      · simp only [Act.put, List.setIfInBounds_toArray, List.set_cons_zero, List.set_cons_succ, i64_w, i32_w]
        rfl
      refine pure_ (i := 47) (N := some 171) (v := ?_) (a' := ?_) #[true, true, true, true, true, true, true, true, true, true, true, true, true, true, true, true, true, true, true, true, true, true, true, true, true, true, true, true, true, true, true, true, true, true, true, true, true, true, true, true, true, true, true, true, true, false, true, true, false, false, false, false, false, false] rfl rfl (any_of HT_.out (by kernel_rfl)) (fun _ _ _ h => h) (Or.inl ⟨by rfl, ?_⟩) ?_ ?_
      rotate_left
      · intro w'
        go_simp
        with_reducible rfl
      rotate_left
      · simp only [Act.put, List.setIfInBounds_toArray, List.set_cons_zero, List.set_cons_succ, i64_w, i32_w]
        rfl
      refine take_ (i := 45) (N := some 169) (v := ?_) (a' := ?_) #[true, true, true, true, true, true, true, true, true, true, true, true, true, true, true, true, true, true, true, true, true, true, true, true, true, true, true, true, true, true, true, true, true, true, true, true, true, true, true, true, true, true, true, true, true, true, true, true, false, false, false, false, false, false] rfl rfl (take_ofW HT_.out HW_.out (by kernel_rfl)) (fun _ _ _ h => h) (Or.inl ⟨by rfl, ?_⟩) hHeld ?_ ?_
      rotate_left
      · rintro w' ⟨s0, s1, s2, s3, s4, s5, s6, s7, s8, s9, s10, s11, s12, s13, s14, s15, s16, s17, s18, s19, s20, s21, s22, s23, s24, s25, s26, s27, s28, s29, s30, s31, s32, s33, s34, s35, s36, s37, s38, s39, s40, s41, s42, s43, s44⟩
        go_simp
        with_reducible rfl
      rotate_left
      · simp only [Act.put, List.setIfInBounds_toArray, List.set_cons_zero, List.set_cons_succ, i64_w, i32_w]
        rfl
      refine one_ (i := 48) (N := some 172) #[true, true, true, true, true, true, true, true, true, true, true, true, true, true, true, true, true, true, true, true, true, true, true, true, true, true, true, true, true, true, true, true, true, true, true, true, true, true, true, true, true, true, true, true, true, true, true, true, true, false, false, false, false, false] rfl rfl (one_of HT_.out (by kernel_rfl)) (by decide) (fun K hK => ?_)
      refine goes_ Tryd.func17 (by kernel_rfl) rfl #[.int .u8 a0, .int .u8 a1] (by rfl) rfl rfl (by (try simp only [List.map_toArray, List.map_cons, List.map_nil]); first | done | rfl | (simp only [List.length_drop, List.length_take]; rfl)) ?_
      with_reducible refine (scantlingref01_Row.calls kj34 a0 a1 t282 t283 t284 t285 _ A87.out).mono ?_
      rintro e w98 ⟨rfl, hb⟩
      have HS_ := hsA hb hHeld fun h => hsA hb h fun h => hsA hb h fun h => hsA hb h fun h => hsA hb h fun h => hsA hb h fun h => hsA hb h fun h => hsA hb h fun h => hsA hb h fun h => hsA hb h fun h => hsA hb h fun h => hsA hb h fun h => hsA hb h fun h => hsA hb h fun h => hsA hb h fun h => hsA hb h fun h => hsA hb h fun h => hsA hb h fun h => hsA hb h fun h => hsA hb h fun h => hsA hb h fun h => hsA hb h fun h => hsA hb h fun h => hsA hb h fun h => hsA hb h fun h => hsA hb h fun h => hsA hb h fun h => hsA hb h fun h => hsA hb h fun h => hsA hb h fun h => hsA hb h fun h => hsA hb h fun h => hsA hb h fun h => hsA hb h fun h => hsA hb h fun h => hsA hb h fun h => hsA hb h fun h => hsA hb h fun h => hsA hb h fun h => hsA hb h fun h => hsA hb h fun h => hsA hb h fun h => hsA hb h fun h => hsA hb h fun h => hsc hb h
      refine ⟨_, rfl, ?_⟩
      have n0_ := Aside0.mk (Kd.R_below (by (with_reducible repeat (first | apply Kd.R_alloc | apply Kd.R_drewN | apply Kd.R_drew)); exact HO_8.out) hb)
      have n1_ := Aside0.mk (Kd.R_below (by (with_reducible repeat (first | apply Kd.R_alloc | apply Kd.R_drewN | apply Kd.R_drew)); exact HO_11.out) hb)
      have n2_ := Aside0.mk (Kd.R_below (by (with_reducible repeat (first | apply Kd.R_alloc | apply Kd.R_drewN | apply Kd.R_drew)); exact HO_14.out) hb)
      have n3_ := Aside0.mk (Kd.R_below (by (with_reducible repeat (first | apply Kd.R_alloc | apply Kd.R_drewN | apply Kd.R_drew)); exact HO_17.out) hb)
      have n4_ := Aside0.mk (below_step (belx HB) hb)
      clear HO_8
      clear HO_11
      clear HO_14
      clear HO_17
      clear HB
      have HO_8 := n0_
      have HO_11 := n1_
      have HO_14 := n2_
      have HO_17 := n3_
      have HB := n4_
      clear n0_ n1_ n2_ n3_ n4_
      (try clear hb)
      (try clear hb2)
      (try clear hk)
      (try clear hi)
      refine hK.out _ _ HS_ (fun hHeld => ?_)
      clear hK K
      refine norm_ (a' := ?_) ?_ ?_
      rotate_left
      · show Act.put _ (some 172) _ = _
        simp only [Act.put, List.setIfInBounds_toArray, List.set_cons_zero, List.set_cons_succ, i64_w, i32_w]
        rfl
      refine pure_ (i := 49) (N := some 173) (v := ?_) (a' := ?_) #[true, true, true, true, true, true, true, true, true, true, true, true, true, true, true, true, true, true, true, true, true, true, true, true, true, true, true, true, true, true, true, true, true, true, true, true, true, true, true, true, true, true, true, true, true, true, true, true, true, true, false, false, false, false] rfl rfl (any_of HT_.out (by kernel_rfl)) (fun _ _ _ h => h) (Or.inl ⟨by rfl, ?_⟩) ?_ ?_
      rotate_left
      · intro w'
        go_simp
        with_reducible rfl
      rotate_left
      · simp only [Act.put, List.setIfInBounds_toArray, List.set_cons_zero, List.set_cons_succ, i64_w, i32_w]
        rfl
      refine pure_ (i := 50) (N := some 174) (v := ?_) (a' := ?_) #[true, true, true, true, true, true, true, true, true, true, true, true, true, true, true, true, true, true, true, true, true, true, true, true, true, true, true, true, true, true, true, true, true, true, true, true, true, true, true, true, true, true, true, true, true, true, true, true, true, true, true, false, false, false] rfl rfl (any_of HT_.out (by kernel_rfl)) (fun _ _ _ h => h) (Or.inl ⟨by rfl, ?_⟩) ?_ ?_
      rotate_left
      · intro w'
        go_simp
        with_reducible rfl
      rotate_left
      · simp only [Act.put, List.setIfInBounds_toArray, List.set_cons_zero, List.set_cons_succ, i64_w, i32_w]
        rfl
      refine pure_ (i := 51) (N := some 175) (v := ?_) (a' := ?_) #[true, true, true, true, true, true, true, true, true, true, true, true, true, true, true, true, true, true, true, true, true, true, true, true, true, true, true, true, true, true, true, true, true, true, true, true, true, true, true, true, true, true, true, true, true, true, true, true, true, true, true, true, false, false] rfl rfl (any_of HT_.out (by kernel_rfl)) (fun _ _ _ h => h) (Or.inl ⟨by rfl, ?_⟩) ?_ ?_
      rotate_left
      · intro w'
        go_simp
        with_reducible rfl
      rotate_left
      · simp only [Act.put, List.setIfInBounds_toArray, List.set_cons_zero, List.set_cons_succ, i64_w, i32_w]
        rfl
      refine pure_ (i := 52) (N := some 176) (v := ?_) (a' := ?_) #[true, true, true, true, true, true, true, true, true, true, true, true, true, true, true, true, true, true, true, true, true, true, true, true, true, true, true, true, true, true, true, true, true, true, true, true, true, true, true, true, true, true, true, true, true, true, true, true, true, true, true, true, true, false] rfl rfl (any_of HT_.out (by kernel_rfl)) (fun _ _ _ h => h) (Or.inl ⟨by rfl, ?_⟩) ?_ ?_
      rotate_left
      · intro w'
        go_simp
        with_reducible rfl
      rotate_left
      · simp only [Act.put, List.setIfInBounds_toArray, List.set_cons_zero, List.set_cons_succ, i64_w, i32_w]
        rfl
      refine pure_ (i := 53) (N := some 4) (v := ?_) (a' := ?_) #[true, true, true, true, true, true, true, true, true, true, true, true, true, true, true, true, true, true, true, true, true, true, true, true, true, true, true, true, true, true, true, true, true, true, true, true, true, true, true, true, true, true, true, true, true, true, true, true, true, true, true, true, true, true] rfl rfl (any_of HT_.out (by kernel_rfl)) (fun _ _ _ h => h) (Or.inl ⟨by rfl, ?_⟩) ?_ ?_
      rotate_left
      · intro w'
        go_simp
        with_reducible rfl
      rotate_left
      · simp only [Act.put, List.setIfInBounds_toArray, List.set_cons_zero, List.set_cons_succ, i64_w, i32_w]
        rfl
      refine done_ (done_of HT_.out (by kernel_rfl)) ?_
      try go_wp2
      go_ret
      exact ⟨by first | rfl | (simp [errW_none, errW_some] <;> rfl) | (simp only [← hji5, ← hji9, ← hji13, ← hji17]; first | rfl | (simp [errW_none, errW_some] <;> rfl)) | (simp [*, errW_none, errW_some] <;> rfl), belx HB⟩
def scantlinglaw03_LexClass.Pure : Prop := ∀ (a0 : Int) (a1 : Int), (Lit.int .u8 a0).wf = true → (Lit.int .u8 a1).wf = true → ∃ k, scantlinglaw03_LexClass.f k a0 a1 = some true
theorem scantlinglaw03_LexClass.walk (P : scantlinglaw03_LexClass.Pure) (a0 : Int) (a1 : Int) (w : World) (hL_ : LaidW w) (w0 : (Lit.int .u8 a0).wf = true) (w1 : (Lit.int .u8 a1).wf = true) :
    Calls Tryd.prog 6 #[.int .u8 a0, .int .u8 a1] w fun e w' => e = .returned (.bool true) ∧ Below w.heap.size w w' := by
  obtain ⟨k, h⟩ := P a0 a1 w0 w1
  refine (scantlinglaw03_LexClass.calls k a0 a1 true w hL_ h).mono ?_
  rintro e w' ⟨rfl, hd⟩
  exact ⟨rfl, hd⟩
end Go.Proofs.YtepnbnpgifpfbaaDoor.G
