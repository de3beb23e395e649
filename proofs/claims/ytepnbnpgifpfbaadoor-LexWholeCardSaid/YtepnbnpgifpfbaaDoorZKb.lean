/- Lemmas and walks of this claim: GBase, Shelf, GK, GENine, GEMaps, GELib. -/
import Derived.Test.YtepnbnpgifpfbaaDoorZKa
import Derived.Test.YtepnbnpgifpfbaaDoorProg
import Derived.ChangeAgain
import Derived.ChangeKeysEq
import Derived.Shelf.Unicode.DecodeSlow
import Derived.Shelf.Small.Utf8
import Derived.Shelf.Small.Strs
import Derived.Shelf.Small.Wraps
import Derived.Shelf.Utf8.RuneCount
import Derived.Shelf.Strconv.Atoi
import Derived.Shelf.Strconv.Itoa0
import Derived.Shelf.Strconv.Itoa1
import Derived.Shelf.LaysM
import Derived.Shelf.Strconv.Itoa2
import Derived.Shelf.Strconv.Itoa3
import Derived.Shelf.Strconv.AtoiErrFast
import Derived.Shelf.Strconv.ParseIntEmpty
import Derived.Shelf.Strconv.AtoiFail
import Derived.Shelf.Strconv.Clone
import Derived.Shelf.Strconv.SyntaxError
import Derived.Shelf.LaysC
import Derived.Shelf.Strconv.ToError
import Derived.Shelf.Strconv.AtoiErr
import Derived.Shelf.Strconv.ErrVar
import Derived.Shelf.Strconv.Lower
import Derived.Shelf.Strconv.ParseUint10
import Derived.Shelf.Strconv.ParseUint10Empty
import Derived.Shelf.Strconv.ParseUint10Any
import Derived.Shelf.Strconv.ParseInt10
import Derived.Shelf.Strconv.AtoiLong
import Derived.Shelf.Strconv.AtoiInnerAll
import Derived.Shelf.Strconv.RangeError
import Derived.Shelf.Strconv.ToErrorRange
import Derived.Shelf.Strconv.AtoiAll
import Derived.Shelf.Strconv.ErrVarAll
import Derived.Shelf.Strings.Search1
import Derived.Shelf.Strings.Search2
import Derived.Shelf.Strings.Search3
import Derived.Shelf.Strings.Cut
import Derived.Shelf.Strings.Count
import Derived.Shelf.Strings.Shaped
import Derived.Shelf.Strings.Prefix
import Derived.Shelf.Strings.Split
import Derived.Shelf.Strings.SplitShaped
import Derived.Shelf.Unicode.Decode
import Derived.Shelf.Strings.RuneCount
import Derived.Shelf.Strings.Explode
import Derived.Shelf.Unicode.DecodeAny
import Derived.Shelf.Unicode.DecodeLast
import Derived.Below
import Derived.Deep.Draws
import Derived.Deep.AppendLies
import Derived.Maps.AppendAt
import Derived.OwnWalk
import Derived.Laws.BytesArg
import Derived.Laws.MakeOwn
import Derived.Laws.OwnMore
import Derived.Deep.OwnRows
import Derived.Tactics
import Derived.Lib.ConvBytes
import Derived.Laws.Slices
import Derived.WalkKit
import Derived.KernelRfl
import Derived.RowKit3
import Derived.Deep.LoopGhost
import Derived.Deep.QuietTactic
import Derived.BigQuiet
import Derived.WideLaws
import Derived.Deep.DeepCutAuto
import Derived.Deep.CutBlock
import Derived.Deep.RegionHeld3
import Derived.Laws.Rows
import Derived.Lib.AppendStr
import Derived.ArgAppend
import Derived.Laws.IdiomCopy
import Derived.OrdersHeld
import Derived.Laws.BitsLemmas
import Derived.RowKit
import Derived.Carry
import Derived.Lib.SmallJoins
import Derived.MapKept
import Derived.Lib.IndexMore
import Derived.Lib.SplitLaws
import Derived.LoopN
import Derived.Outline
import Derived.RegionTactic
import Derived.ChangeAlike
import Derived.Deep.RegionWith
import Derived.Laws.EntriesVeiled
set_option linter.unusedVariables false
set_option linter.unusedSimpArgs false
namespace Go.Proofs.YtepnbnpgifpfbaaDoor.G
open Go.RowKit Go.Proofs.YtepnbnpgifpfbaaDoorW.PrintWords
set_option linter.unusedVariables false
set_option linter.unusedSimpArgs false
theorem eqArr4 (P : Program) (t e : TypeId) (ht : P.underlying t = some (.array 4 e)) (he : P.underlying e = some (.int .u64)) (hz : (P.info? e).map (fun i => i.size) = some 1) (hk : P.plainKey e = true) (d : Nat) (w : World) (x0 y0 x1 y1 x2 y2 x3 y3 : Int) :
    (Op.equalIn (d + 2) t (.agg #[.int .u64 x0, .int .u64 x1, .int .u64 x2, .int .u64 x3]) (.agg #[.int .u64 y0, .int .u64 y1, .int .u64 y2, .int .u64 y3])).run P w = .ok (x0 == y0 && (x1 == y1 && (x2 == y2 && (x3 == y3)))) w := by
  obtain ⟨i, hi, h1⟩ := Option.map_eq_some_iff.1 hz
  have hc : P.cellsOf e = 1 := by simp [Program.cellsOf, hi, h1]
  rw [run_equalIn_array w (d + 1) _ _ ht hi, hc]
  have hq : ∀ a b : Int, (Op.equalIn (d + 1) e (.int .u64 a) (.int .u64 b)).run P w = .ok (a == b) w := fun a b => run_equalIn_int w d e .u64 .u64 a b he
  have hp : ∀ (xs : Array Value) (k : Nat) (v : Value), xs[k]? = some v → (part e xs (k * 1)).run P w = .ok v w := by
    intro xs k v hv
    rw [Nat.mul_one]
    exact run_part_plain w hk hv
  have step : ∀ (xs ys : Array Value) (k : Nat) (a b : Int) (ks : List Nat) (r : Bool), xs[k]? = some (.int .u64 a) → ys[k]? = some (.int .u64 b) → (Op.eqItems (d + 1) e 1 xs ys ks).run P w = .ok r w → (Op.eqItems (d + 1) e 1 xs ys (k :: ks)).run P w = .ok (a == b && r) w := by
    intro xs ys k a b ks r ha hb hr
    simp only [Op.eqItems, Sem.run_bind, hp _ _ _ ha, hp _ _ _ hb, hq, Result.andThen_ok]
    cases h : (a == b)
    · simp
    · simpa using hr
  have last : ∀ (xs ys : Array Value), (Op.eqItems (d + 1) e 1 xs ys []).run P w = .ok true w := by intro xs ys; simp [Op.eqItems]
  have h := step _ _ 0 _ _ [1, 2, 3] _ rfl rfl (step _ _ 1 _ _ [2, 3] _ rfl rfl (step _ _ 2 _ _ [3] _ rfl rfl (step _ _ 3 _ _ [] _ rfl rfl (last #[.int .u64 x0, .int .u64 x1, .int .u64 x2, .int .u64 x3] #[.int .u64 y0, .int .u64 y1, .int .u64 y2, .int .u64 y3]))))
  rw [Bool.and_true] at h
  exact h
structure LaidW (w : World) : Prop where
  out : ∃ w0 : World, (w0.ShapedOpen Tryd.prog ∧ Lib.Utf8Tabs 0 1 w0 ∧ ∃ tp p, w0.var? Tryd.prog "strconv.ErrRange" = some #[.iface tp p]) ∧ Below w0.heap.size w0 w
theorem LaidW.below {w w' : World} (h : LaidW w) (hb : Below w.heap.size w w') : LaidW w' := by
  obtain ⟨w0, hf, h0⟩ := h.out
  exact ⟨⟨w0, hf, below_then h0 h0.size hb⟩⟩
theorem LaidW.drewN {w : World} (h : LaidW w) (n : Nat) : LaidW (w.drewN n) := h.below (pw_below_drewN (Below.refl _ _) n)
theorem LaidW.drew {w : World} (h : LaidW w) : LaidW w.drew := h.below (below_drew (Below.refl _ _))
theorem LaidW.shaped {w : World} (h : LaidW w) : w.ShapedOpen Tryd.prog := by
  obtain ⟨w0, hf, h0⟩ := h.out
  exact hf.1.keptBut (h0.frame (fun _ => False)) (fun _ h => h.elim)
end Go.Proofs.YtepnbnpgifpfbaaDoor.G
namespace Go.Proofs
open Go.Shelf
def Tryd.lays137_ren : Go.Shelf.Ren := ⟨fun | 137 => 31 | 217 => 40 | 266 => 48 | n => n, fun | 9 => 9 | 5 => 5 | 3 => 3 | n => n, fun | n => n⟩
theorem Tryd.lays137 : Go.Proofs.Lays.n137 Tryd.prog Tryd.lays137_ren := {
  mixed := by kernel_rfl
  f137 := Tryd.func31.trans (congrArg some (by kernel_rfl))
  f217 := Tryd.func40.trans (congrArg some (by kernel_rfl))
  f266 := Tryd.func48.trans (congrArg some (by kernel_rfl))
  t3 := Tryd.underlying3
  a3 := Tryd.isAgg3
  z3 := Tryd.sizeOf3
  v3 := Tryd.zeroValue3
  t5 := Tryd.underlying5
  a5 := Tryd.isAgg5
  z5 := Tryd.sizeOf5
  v5 := Tryd.zeroValue5
  t9 := Tryd.underlying9
  a9 := Tryd.isAgg9
  z9 := Tryd.sizeOf9
  v9 := Tryd.zeroValue9 }
open Go.RowKit in
theorem Tryd.strings_IndexByte (s : ByteArray) (c : Int) (w : World) :
    Calls Tryd.prog 31 #[.string s, .int .u8 c] w fun e w' => e = .returned (.int .i64 (Lib.indexByte s.data.toList c.toNat.toUInt8)) ∧ w' = w := Any.strings_IndexByte Tryd.lays137 s c w
def Tryd.laysC172_ren : Go.Shelf.Ren := ⟨fun | 172 => 57 | 244 => 65 | 245 => 66 | 247 => 73 | 279 => 74 | 280 => 75 | 281 => 76 | 282 => 77 | 287 => 79 | 316 => 80 | 171 => 82 | 205 => 81 | 321 => 83 | 322 => 84 | 243 => 85 | 246 => 86 | 283 => 87 | 284 => 88 | 285 => 89 | 286 => 90 | 129 => 92 | 317 => 91 | 318 => 93 | 319 => 94 | 320 => 95 | 337 => 96 | 338 => 97 | n => n, fun | 9 => 9 | 3 => 3 | 75 => 92 | 76 => 93 | 4 => 4 | 5 => 5 | 167 => 103 | 37 => 37 | 0 => 0 | 85 => 104 | 2 => 2 | 168 => 106 | 53 => 31 | 175 => 112 | 46 => 76 | 210 => 116 | 127 => 120 | 145 => 123 | 143 => 121 | 21 => 21 | 171 => 125 | 173 => 128 | 212 => 131 | 51 => 109 | 20 => 20 | 213 => 132 | 232 => 136 | 233 => 137 | 80 => 138 | n => n, fun | 15 => 3 | 16 => 4 | 17 => 5 | 18 => 6 | 19 => 7 | n => n⟩
theorem Tryd.laysC172 : Go.Proofs.LaysC.n172 Tryd.prog Tryd.laysC172_ren := {
  mixed := by kernel_rfl
  f129 := Tryd.func92.trans (congrArg some (by kernel_rfl))
  f171 := Tryd.func82.trans (congrArg some (by kernel_rfl))
  f172 := Tryd.func57.trans (congrArg some (by kernel_rfl))
  f205 := Tryd.func81.trans (congrArg some (by kernel_rfl))
  f243 := Tryd.func85.trans (congrArg some (by kernel_rfl))
  f244 := Tryd.func65.trans (congrArg some (by kernel_rfl))
  f245 := Tryd.func66.trans (congrArg some (by kernel_rfl))
  f246 := Tryd.func86.trans (congrArg some (by kernel_rfl))
  f247 := Tryd.func73.trans (congrArg some (by kernel_rfl))
  f279 := Tryd.func74.trans (congrArg some (by kernel_rfl))
  f280 := Tryd.func75.trans (congrArg some (by kernel_rfl))
  f281 := Tryd.func76.trans (congrArg some (by kernel_rfl))
  f282 := Tryd.func77.trans (congrArg some (by kernel_rfl))
  f283 := Tryd.func87.trans (congrArg some (by kernel_rfl))
  f284 := Tryd.func88.trans (congrArg some (by kernel_rfl))
  f285 := Tryd.func89.trans (congrArg some (by kernel_rfl))
  f286 := Tryd.func90.trans (congrArg some (by kernel_rfl))
  f287 := Tryd.func79.trans (congrArg some (by kernel_rfl))
  f316 := Tryd.func80.trans (congrArg some (by kernel_rfl))
  f317 := Tryd.func91.trans (congrArg some (by kernel_rfl))
  f318 := Tryd.func93.trans (congrArg some (by kernel_rfl))
  f319 := Tryd.func94.trans (congrArg some (by kernel_rfl))
  f320 := Tryd.func95.trans (congrArg some (by kernel_rfl))
  f321 := Tryd.func83.trans (congrArg some (by kernel_rfl))
  f322 := Tryd.func84.trans (congrArg some (by kernel_rfl))
  f337 := Tryd.func96.trans (congrArg some (by kernel_rfl))
  f338 := Tryd.func97.trans (congrArg some (by kernel_rfl))
  t0 := Tryd.underlying0
  a0 := Tryd.isAgg0
  z0 := Tryd.sizeOf0
  v0 := Tryd.zeroValue0
  t2 := Tryd.underlying2
  a2 := Tryd.isAgg2
  z2 := Tryd.sizeOf2
  v2 := Tryd.zeroValue2
  t3 := Tryd.underlying3
  a3 := Tryd.isAgg3
  z3 := Tryd.sizeOf3
  v3 := Tryd.zeroValue3
  t4 := Tryd.underlying4
  a4 := Tryd.isAgg4
  z4 := Tryd.sizeOf4
  v4 := Tryd.zeroValue4
  t5 := Tryd.underlying5
  a5 := Tryd.isAgg5
  z5 := Tryd.sizeOf5
  v5 := Tryd.zeroValue5
  t9 := Tryd.underlying9
  a9 := Tryd.isAgg9
  z9 := Tryd.sizeOf9
  v9 := Tryd.zeroValue9
  t20 := Tryd.underlying20
  a20 := Tryd.isAgg20
  z20 := Tryd.sizeOf20
  v20 := Tryd.zeroValue20
  t21 := Tryd.underlying21
  a21 := Tryd.isAgg21
  z21 := Tryd.sizeOf21
  v21 := Tryd.zeroValue21
  t37 := Tryd.underlying37
  a37 := Tryd.isAgg37
  z37 := Tryd.sizeOf37
  v37 := Tryd.zeroValue37
  t46 := Tryd.underlying76
  a46 := Tryd.isAgg76
  z46 := Tryd.sizeOf76
  v46 := Tryd.zeroValue76
  t51 := Tryd.underlying109
  a51 := Tryd.isAgg109
  z51 := Tryd.sizeOf109
  v51 := Tryd.zeroValue109
  t53 := Tryd.underlying31
  a53 := Tryd.isAgg31
  z53 := Tryd.sizeOf31
  v53 := Tryd.zeroValue31
  t75 := Tryd.underlying92
  a75 := Tryd.isAgg92
  z75 := Tryd.sizeOf92
  v75 := Tryd.zeroValue92
  t76 := Tryd.underlying93
  a76 := Tryd.isAgg93
  z76 := Tryd.sizeOf93
  v76 := Tryd.zeroValue93
  t85 := Tryd.underlying104
  a85 := Tryd.isAgg104
  z85 := Tryd.sizeOf104
  v85 := Tryd.zeroValue104
  t127 := Tryd.underlying120
  a127 := Tryd.isAgg120
  z127 := Tryd.sizeOf120
  v127 := Tryd.zeroValue120
  t143 := Tryd.underlying121
  a143 := Tryd.isAgg121
  z143 := Tryd.sizeOf121
  v143 := Tryd.zeroValue121
  t145 := Tryd.underlying123
  a145 := Tryd.isAgg123
  z145 := Tryd.sizeOf123
  v145 := Tryd.zeroValue123
  t167 := Tryd.underlying103
  a167 := Tryd.isAgg103
  z167 := Tryd.sizeOf103
  v167 := Tryd.zeroValue103
  t168 := Tryd.underlying106
  a168 := Tryd.isAgg106
  z168 := Tryd.sizeOf106
  v168 := Tryd.zeroValue106
  t171 := Tryd.underlying125
  a171 := Tryd.isAgg125
  z171 := Tryd.sizeOf125
  v171 := Tryd.zeroValue125
  t173 := Tryd.underlying128
  a173 := Tryd.isAgg128
  z173 := Tryd.sizeOf128
  v173 := Tryd.zeroValue128
  t175 := Tryd.underlying112
  a175 := Tryd.isAgg112
  z175 := Tryd.sizeOf112
  v175 := Tryd.zeroValue112
  t210 := Tryd.underlying116
  a210 := Tryd.isAgg116
  z210 := Tryd.sizeOf116
  v210 := Tryd.zeroValue116
  t212 := Tryd.underlying131
  a212 := Tryd.isAgg131
  z212 := Tryd.sizeOf131
  v212 := Tryd.zeroValue131
  t213 := Tryd.underlying132
  a213 := Tryd.isAgg132
  z213 := Tryd.sizeOf132
  t232 := Tryd.underlying136
  a232 := Tryd.isAgg136
  z232 := Tryd.sizeOf136
  v232 := Tryd.zeroValue136
  t233 := Tryd.underlying137
  a233 := Tryd.isAgg137
  z233 := Tryd.sizeOf137
  v233 := Tryd.zeroValue137
  g15 := by kernel_rfl
  g16 := by kernel_rfl
  g17 := by kernel_rfl
  g18 := by kernel_rfl
  g19 := by kernel_rfl
  t80 := Tryd.underlying138
  a80 := Tryd.isAgg138
  z80 := Tryd.sizeOf138
  v80 := Tryd.zeroValue138
  i0 := by kernel_rfl
  i2 := by kernel_rfl
  i3 := by kernel_rfl
  i4 := by kernel_rfl
  i5 := by kernel_rfl
  i9 := by kernel_rfl
  i20 := by kernel_rfl
  i21 := by kernel_rfl
  i37 := by kernel_rfl
  i46 := by kernel_rfl
  i51 := by kernel_rfl
  i53 := by kernel_rfl
  i75 := by kernel_rfl
  i76 := by kernel_rfl
  i80 := by kernel_rfl
  i85 := by kernel_rfl
  i127 := by kernel_rfl
  i143 := by kernel_rfl
  i145 := by kernel_rfl
  i167 := by kernel_rfl
  i168 := by kernel_rfl
  i171 := by kernel_rfl
  i173 := by kernel_rfl
  i175 := by kernel_rfl
  i210 := by kernel_rfl
  i212 := by kernel_rfl
  i232 := by kernel_rfl
  i233 := by kernel_rfl
  m15 := by kernel_rfl
  m16 := by kernel_rfl
  m17 := by kernel_rfl
  m18 := by kernel_rfl
  m19 := by kernel_rfl
  c0 := by kernel_rfl
  c2 := by kernel_rfl
  c3 := by kernel_rfl
  c4 := by kernel_rfl
  c5 := by kernel_rfl
  c9 := by kernel_rfl
  c20 := by kernel_rfl
  c21 := by kernel_rfl
  c37 := by kernel_rfl
  c46 := by kernel_rfl
  c51 := by kernel_rfl
  c53 := by kernel_rfl
  c75 := by kernel_rfl
  c76 := by kernel_rfl
  c80 := by kernel_rfl
  c85 := by kernel_rfl
  c127 := by kernel_rfl
  c143 := by kernel_rfl
  c145 := by kernel_rfl
  c167 := by kernel_rfl
  c168 := by kernel_rfl
  c171 := by kernel_rfl
  c173 := by kernel_rfl
  c175 := by kernel_rfl
  c210 := by kernel_rfl
  c212 := by kernel_rfl
  c213 := by kernel_rfl
  c232 := by kernel_rfl
  c233 := by kernel_rfl }
open Go.RowKit in
theorem Tryd.strconv_Atoi_ok (s : ByteArray) (hmax : s.size ≤ 9223372036854775806) (v : Int) (h : Lib.atoiAll s.data.toList = .ok v) (w : World) :
    Calls Tryd.prog 57 #[.string s] w fun e w' => e = .returned (.tuple #[.int .i64 v, .nilIface]) ∧ (w' = w ∨ ∃ t, w' = Lib.bytesWorld w 5 t) := Any.strconv_Atoi_ok Tryd.laysC172 s hmax v h w
open Go.RowKit in
theorem Tryd.strconv_Atoi_range_var (s : ByteArray) (hlim : s.size ≤ 281474976710656) (h : Lib.atoiAll s.data.toList = .range) (tp : TypeId) (p : Value) (w : World) (hvar : w.var? Tryd.prog "strconv.ErrRange" = some #[.iface tp p]) :
    Calls Tryd.prog 57 #[.string s] w fun e w' => ∃ N, e = .returned (.tuple #[.int .i64 (Lib.atoiSat s.data.toList), .iface 106 (.pointer (some ⟨N, 0, none⟩))]) ∧ w.heap.size ≤ N ∧ w'.heap[N]? = some (.cells #[.string ⟨#[65, 116, 111, 105]⟩, .string s, .iface tp p] 116 (0, 0)) ∧ Below w.heap.size w w' := Any.strconv_Atoi_range_var Tryd.laysC172 s hlim h tp p w hvar
def Tryd.laysM145_ren : Go.Shelf.Ren := ⟨fun | 145 => 46 | 220 => 54 | 219 => 63 | 217 => 40 | 225 => 69 | 224 => 70 | 267 => 71 | 266 => 48 | 314 => 78 | n => n, fun | 9 => 9 | 4 => 4 | 59 => 84 | 3 => 3 | 5 => 5 | 46 => 76 | 146 => 110 | 51 => 109 | n => n, fun | 1 => 2 | n => n⟩
theorem Tryd.laysM145 : Go.Proofs.LaysM.n145 Tryd.prog Tryd.laysM145_ren := {
  mixed := by kernel_rfl
  f145 := Tryd.func46.trans (congrArg some (by kernel_rfl))
  f217 := Tryd.func40.trans (congrArg some (by kernel_rfl))
  f219 := Tryd.func63.trans (congrArg some (by kernel_rfl))
  f220 := Tryd.func54.trans (congrArg some (by kernel_rfl))
  f224 := Tryd.func70.trans (congrArg some (by kernel_rfl))
  f225 := Tryd.func69.trans (congrArg some (by kernel_rfl))
  f266 := Tryd.func48.trans (congrArg some (by kernel_rfl))
  f267 := Tryd.func71.trans (congrArg some (by kernel_rfl))
  f314 := Tryd.func78.trans (congrArg some (by kernel_rfl))
  t3 := Tryd.underlying3
  a3 := Tryd.isAgg3
  z3 := Tryd.sizeOf3
  v3 := Tryd.zeroValue3
  t4 := Tryd.underlying4
  a4 := Tryd.isAgg4
  z4 := Tryd.sizeOf4
  v4 := Tryd.zeroValue4
  t5 := Tryd.underlying5
  a5 := Tryd.isAgg5
  z5 := Tryd.sizeOf5
  v5 := Tryd.zeroValue5
  t9 := Tryd.underlying9
  a9 := Tryd.isAgg9
  z9 := Tryd.sizeOf9
  v9 := Tryd.zeroValue9
  t46 := Tryd.underlying76
  a46 := Tryd.isAgg76
  z46 := Tryd.sizeOf76
  v46 := Tryd.zeroValue76
  t51 := Tryd.underlying109
  a51 := Tryd.isAgg109
  z51 := Tryd.sizeOf109
  v51 := Tryd.zeroValue109
  t59 := Tryd.underlying84
  a59 := Tryd.isAgg84
  z59 := Tryd.sizeOf84
  v59 := Tryd.zeroValue84
  t146 := Tryd.underlying110
  a146 := Tryd.isAgg110
  z146 := Tryd.sizeOf110
  v146 := Tryd.zeroValue110
  g1 := by kernel_rfl
  i3 := by kernel_rfl
  i4 := by kernel_rfl
  i5 := by kernel_rfl
  i9 := by kernel_rfl
  i46 := by kernel_rfl
  i51 := by kernel_rfl
  i59 := by kernel_rfl
  i146 := by kernel_rfl
  m1 := by kernel_rfl
  s1_3 := fun w h => Go.Proofs.cell_of_shapedOpen_int (zero := #[.int .i64 0]) (t := 3) h (of_decide_eq_true (by kernel_rfl)) (by kernel_rfl) rfl (by kernel_rfl) (by kernel_rfl) Tryd.underlying3 }
open Go.RowKit Go.Lib in
theorem Tryd.strings_Cut_shaped (s sep : ByteArray) (w : World) (h : w.ShapedOpen Tryd.prog) (hs : s.size < 4294967281) :
    Calls Tryd.prog 46 #[.string s, .string sep] w fun e w' => e = .returned (.tuple #[.string ⟨(Lib.cut s.data.toList sep.data.toList).1.toArray⟩, .string ⟨(Lib.cut s.data.toList sep.data.toList).2.1.toArray⟩, .bool (Lib.cut s.data.toList sep.data.toList).2.2]) ∧ ∃ n, w' = w.drewN n := Any.strings_Cut_shaped Tryd.laysM145 s sep w h hs
def Tryd.laysM146_ren : Go.Shelf.Ren := ⟨fun | 146 => 43 | 221 => 51 | 268 => 59 | 138 => 60 | 143 => 61 | 195 => 67 | 197 => 23 | 218 => 68 | 219 => 63 | 260 => 36 | 217 => 40 | 225 => 69 | 224 => 70 | 267 => 71 | 266 => 48 | 314 => 78 | n => n, fun | 9 => 9 | 31 => 82 | 3 => 3 | 4 => 4 | 0 => 0 | 105 => 50 | 21 => 21 | 5 => 5 | 46 => 76 | 119 => 75 | 139 => 79 | 138 => 78 | 146 => 110 | 51 => 109 | n => n, fun | 1 => 2 | 3 => 0 | 4 => 1 | n => n⟩
theorem Tryd.laysM146 : Go.Proofs.LaysM.n146 Tryd.prog Tryd.laysM146_ren := {
  mixed := by kernel_rfl
  f138 := Tryd.func60.trans (congrArg some (by kernel_rfl))
  f143 := Tryd.func61.trans (congrArg some (by kernel_rfl))
  f146 := Tryd.func43.trans (congrArg some (by kernel_rfl))
  f195 := Tryd.func67.trans (congrArg some (by kernel_rfl))
  f197 := Tryd.func23.trans (congrArg some (by kernel_rfl))
  f217 := Tryd.func40.trans (congrArg some (by kernel_rfl))
  f218 := Tryd.func68.trans (congrArg some (by kernel_rfl))
  f219 := Tryd.func63.trans (congrArg some (by kernel_rfl))
  f221 := Tryd.func51.trans (congrArg some (by kernel_rfl))
  f224 := Tryd.func70.trans (congrArg some (by kernel_rfl))
  f225 := Tryd.func69.trans (congrArg some (by kernel_rfl))
  f260 := Tryd.func36.trans (congrArg some (by kernel_rfl))
  f266 := Tryd.func48.trans (congrArg some (by kernel_rfl))
  f267 := Tryd.func71.trans (congrArg some (by kernel_rfl))
  f268 := Tryd.func59.trans (congrArg some (by kernel_rfl))
  f314 := Tryd.func78.trans (congrArg some (by kernel_rfl))
  t0 := Tryd.underlying0
  a0 := Tryd.isAgg0
  z0 := Tryd.sizeOf0
  v0 := Tryd.zeroValue0
  t3 := Tryd.underlying3
  a3 := Tryd.isAgg3
  z3 := Tryd.sizeOf3
  v3 := Tryd.zeroValue3
  t4 := Tryd.underlying4
  a4 := Tryd.isAgg4
  z4 := Tryd.sizeOf4
  v4 := Tryd.zeroValue4
  t5 := Tryd.underlying5
  a5 := Tryd.isAgg5
  z5 := Tryd.sizeOf5
  v5 := Tryd.zeroValue5
  t9 := Tryd.underlying9
  a9 := Tryd.isAgg9
  z9 := Tryd.sizeOf9
  v9 := Tryd.zeroValue9
  t21 := Tryd.underlying21
  a21 := Tryd.isAgg21
  z21 := Tryd.sizeOf21
  v21 := Tryd.zeroValue21
  t31 := Tryd.underlying82
  a31 := Tryd.isAgg82
  z31 := Tryd.sizeOf82
  v31 := Tryd.zeroValue82
  t46 := Tryd.underlying76
  a46 := Tryd.isAgg76
  z46 := Tryd.sizeOf76
  v46 := Tryd.zeroValue76
  t51 := Tryd.underlying109
  a51 := Tryd.isAgg109
  z51 := Tryd.sizeOf109
  v51 := Tryd.zeroValue109
  t105 := Tryd.underlying50
  a105 := Tryd.isAgg50
  z105 := Tryd.sizeOf50
  v105 := Tryd.zeroValue50
  t119 := Tryd.underlying75
  a119 := Tryd.isAgg75
  z119 := Tryd.sizeOf75
  t138 := Tryd.underlying78
  a138 := Tryd.isAgg78
  z138 := Tryd.sizeOf78
  v138 := Tryd.zeroValue78
  t139 := Tryd.underlying79
  a139 := Tryd.isAgg79
  z139 := Tryd.sizeOf79
  v139 := Tryd.zeroValue79
  t146 := Tryd.underlying110
  a146 := Tryd.isAgg110
  z146 := Tryd.sizeOf110
  v146 := Tryd.zeroValue110
  g1 := by kernel_rfl
  g3 := by kernel_rfl
  g4 := by kernel_rfl
  i0 := by kernel_rfl
  i3 := by kernel_rfl
  i4 := by kernel_rfl
  i5 := by kernel_rfl
  i9 := by kernel_rfl
  i21 := by kernel_rfl
  i31 := by kernel_rfl
  i46 := by kernel_rfl
  i51 := by kernel_rfl
  i105 := by kernel_rfl
  i138 := by kernel_rfl
  i139 := by kernel_rfl
  i146 := by kernel_rfl
  m1 := by kernel_rfl
  s1_3 := fun w h => Go.Proofs.cell_of_shapedOpen_int (zero := #[.int .i64 0]) (t := 3) h (of_decide_eq_true (by kernel_rfl)) (by kernel_rfl) rfl (by kernel_rfl) (by kernel_rfl) Tryd.underlying3
  m3 := by kernel_rfl
  m4 := by kernel_rfl }
open Go.RowKit Go.Lib in
theorem Tryd.strings_Split_shaped (s sep : ByteArray) (w : World) (h : w.ShapedOpen Tryd.prog) (hs : s.size < 4294967281) (h1 : 1 ≤ sep.size) :
    Calls Tryd.prog 43 #[.string s, .string sep] w fun e w' =>
      e = .returned (.slice (some ⟨w.heap.size, 0, none⟩) (Lib.countB s sep + 1) (Lib.countB s sep + 1)) ∧ w' = w.alloc (.cells ((Lib.splitB sep 0 (Lib.countB s sep) s).map Value.string).toArray 9) := Any.strings_Split_shaped Tryd.laysM146 s sep w h hs h1
def Tryd.lays197_ren : Go.Shelf.Ren := ⟨fun | 197 => 23 | 260 => 36 | n => n, fun | 9 => 9 | 21 => 21 | 3 => 3 | 4 => 4 | 5 => 5 | 105 => 50 | 119 => 75 | 0 => 0 | 46 => 76 | 139 => 79 | 138 => 78 | n => n, fun | 3 => 0 | 4 => 1 | n => n⟩
theorem Tryd.lays197 : Go.Proofs.Lays.n197 Tryd.prog Tryd.lays197_ren := {
  mixed := by kernel_rfl
  f197 := Tryd.func23.trans (congrArg some (by kernel_rfl))
  f260 := Tryd.func36.trans (congrArg some (by kernel_rfl))
  t0 := Tryd.underlying0
  a0 := Tryd.isAgg0
  z0 := Tryd.sizeOf0
  v0 := Tryd.zeroValue0
  t3 := Tryd.underlying3
  a3 := Tryd.isAgg3
  z3 := Tryd.sizeOf3
  v3 := Tryd.zeroValue3
  t4 := Tryd.underlying4
  a4 := Tryd.isAgg4
  z4 := Tryd.sizeOf4
  v4 := Tryd.zeroValue4
  t5 := Tryd.underlying5
  a5 := Tryd.isAgg5
  z5 := Tryd.sizeOf5
  v5 := Tryd.zeroValue5
  t9 := Tryd.underlying9
  a9 := Tryd.isAgg9
  z9 := Tryd.sizeOf9
  v9 := Tryd.zeroValue9
  t21 := Tryd.underlying21
  a21 := Tryd.isAgg21
  z21 := Tryd.sizeOf21
  v21 := Tryd.zeroValue21
  t46 := Tryd.underlying76
  a46 := Tryd.isAgg76
  z46 := Tryd.sizeOf76
  v46 := Tryd.zeroValue76
  t105 := Tryd.underlying50
  a105 := Tryd.isAgg50
  z105 := Tryd.sizeOf50
  v105 := Tryd.zeroValue50
  t119 := Tryd.underlying75
  a119 := Tryd.isAgg75
  z119 := Tryd.sizeOf75
  t138 := Tryd.underlying78
  a138 := Tryd.isAgg78
  z138 := Tryd.sizeOf78
  v138 := Tryd.zeroValue78
  t139 := Tryd.underlying79
  a139 := Tryd.isAgg79
  z139 := Tryd.sizeOf79
  v139 := Tryd.zeroValue79
  g3 := by kernel_rfl
  g4 := by kernel_rfl }
open Go.RowKit Go.Lib in
theorem Tryd.utf8_DecodeRuneInString (s : ByteArray) (w : World) (hT : Lib.Utf8Tabs 0 1 w) :
    Calls Tryd.prog 23 #[.string s] w fun e w' => e = .returned (.tuple #[.int .i32 (Lib.decodeGo s).1, .int .i64 (Lib.decodeGo s).2]) ∧ Below w.heap.size w w' := Any.utf8_DecodeRuneInString Tryd.lays197 s w hT
def Tryd.lays271_ren : Go.Shelf.Ren := ⟨fun | 271 => 64 | 120 => 72 | 197 => 23 | 260 => 36 | n => n, fun | 9 => 9 | 21 => 21 | 3 => 3 | 4 => 4 | 5 => 5 | 105 => 50 | 119 => 75 | 0 => 0 | 46 => 76 | 139 => 79 | 138 => 78 | n => n, fun | 3 => 0 | 4 => 1 | n => n⟩
theorem Tryd.lays271 : Go.Proofs.Lays.n271 Tryd.prog Tryd.lays271_ren := {
  mixed := by kernel_rfl
  f120 := Tryd.func72.trans (congrArg some (by kernel_rfl))
  f197 := Tryd.func23.trans (congrArg some (by kernel_rfl))
  f260 := Tryd.func36.trans (congrArg some (by kernel_rfl))
  f271 := Tryd.func64.trans (congrArg some (by kernel_rfl))
  t0 := Tryd.underlying0
  a0 := Tryd.isAgg0
  z0 := Tryd.sizeOf0
  v0 := Tryd.zeroValue0
  t3 := Tryd.underlying3
  a3 := Tryd.isAgg3
  z3 := Tryd.sizeOf3
  v3 := Tryd.zeroValue3
  t4 := Tryd.underlying4
  a4 := Tryd.isAgg4
  z4 := Tryd.sizeOf4
  v4 := Tryd.zeroValue4
  t5 := Tryd.underlying5
  a5 := Tryd.isAgg5
  z5 := Tryd.sizeOf5
  v5 := Tryd.zeroValue5
  t9 := Tryd.underlying9
  a9 := Tryd.isAgg9
  z9 := Tryd.sizeOf9
  v9 := Tryd.zeroValue9
  t21 := Tryd.underlying21
  a21 := Tryd.isAgg21
  z21 := Tryd.sizeOf21
  v21 := Tryd.zeroValue21
  t46 := Tryd.underlying76
  a46 := Tryd.isAgg76
  z46 := Tryd.sizeOf76
  v46 := Tryd.zeroValue76
  t105 := Tryd.underlying50
  a105 := Tryd.isAgg50
  z105 := Tryd.sizeOf50
  v105 := Tryd.zeroValue50
  t119 := Tryd.underlying75
  a119 := Tryd.isAgg75
  z119 := Tryd.sizeOf75
  t138 := Tryd.underlying78
  a138 := Tryd.isAgg78
  z138 := Tryd.sizeOf78
  v138 := Tryd.zeroValue78
  t139 := Tryd.underlying79
  a139 := Tryd.isAgg79
  z139 := Tryd.sizeOf79
  v139 := Tryd.zeroValue79
  g3 := by kernel_rfl
  g4 := by kernel_rfl }
open Go.RowKit Go.Lib in
theorem Tryd.utf8_DecodeLastRuneInString (s : ByteArray) (w : World) (hs : s.size ≤ 9223372036854775807) (hT : Lib.Utf8Tabs 0 1 w) :
    Calls Tryd.prog 64 #[.string s] w fun e w' => e = .returned (.tuple #[.int .i32 (Lib.decodeLastL s.data.toList).1, .int .i64 (Lib.decodeLastL s.data.toList).2]) ∧ Below w.heap.size w w' := Any.utf8_DecodeLastRuneInString Tryd.lays271 s w hs hT
end Go.Proofs
namespace Go.Proofs.YtepnbnpgifpfbaaDoor.G
open Go.RowKit Go.Proofs.YtepnbnpgifpfbaaDoorW.PrintWords Go.Proofs.YtepnbnpgifpfbaaDoorW.PrintLast Go.Proofs.YtepnbnpgifpfbaaDoorW.PrintMore
attribute [local go_sem] max2_int min2_int max_two min_two max_three min_three max_four min_four
set_option linter.unusedVariables false
set_option linter.unusedSimpArgs false
def errW : Option Int → Value
  | none => .nilIface
  | some c => .iface 0 (.int .i64 c)
theorem errW_none : errW none = .nilIface := rfl
theorem errW_some (c : Int) : errW (some c) = .iface 0 (.int .i64 c) := rfl
theorem info4 : (Tryd.prog.info? 4).map (fun i => (i.zero, i.size, i.bytes)) = some (some (.bool false), 1, 1) := by kernel_rfl
theorem info35 : (Tryd.prog.info? 35).map (fun i => (i.zero, i.size, i.bytes)) = some (some (.agg #[(.int .i64 0), (.int .i64 0), (.int .u64 0), (.int .u64 0), (.int .u64 0), (.int .u64 0), (.string ⟨#[]⟩), (.int .i64 0), (.int .i64 0)]), 9, 80) := by kernel_rfl
structure S33 where
  f0 : Int
  f1 : Int
  f2 : Int
  f3 : Int
def z33 : S33 := ⟨(0 : Int), (0 : Int), (0 : Int), (0 : Int)⟩
def k33 : Kd S33 := Kd.iso (Kd.pair (Kd.int .u64) (Kd.pair (Kd.int .u64) (Kd.pair (Kd.int .u64) (Kd.int .u64)))) (fun x : S33 => (x.f0, x.f1, x.f2, x.f3))
theorem k33_open {w : World} {x : S33} {cs : List Value} (h : k33.K w x cs) : cs = [.int .u64 x.f0, .int .u64 x.f1, .int .u64 x.f2, .int .u64 x.f3] := by
  obtain ⟨_, _, rfl, rfl, ⟨_, _, rfl, rfl, ⟨_, _, rfl, rfl, rfl⟩⟩⟩ := h
  exact rfl
theorem k33_mkM (w : World) (base : Nat) (ok : Nat → Prop) (x : S33)  : k33.M w base ok x [.int .u64 x.f0, .int .u64 x.f1, .int .u64 x.f2, .int .u64 x.f3] := ⟨[.int .u64 x.f0], [.int .u64 x.f1, .int .u64 x.f2, .int .u64 x.f3], rfl, rfl, ⟨[.int .u64 x.f1], [.int .u64 x.f2, .int .u64 x.f3], rfl, rfl, ⟨[.int .u64 x.f2], [.int .u64 x.f3], rfl, rfl, rfl⟩⟩⟩
structure S35 where
  f0 : Int
  f1 : Int
  f2 : S33
  f3 : ByteArray
  f4 : Int
  f5 : Int
def z35 : S35 := ⟨(0 : Int), (0 : Int), z33, (⟨#[]⟩ : ByteArray), (0 : Int), (0 : Int)⟩
def k35 : Kd S35 := Kd.iso (Kd.pair (Kd.int .i64) (Kd.pair (Kd.int .i64) (Kd.pair k33 (Kd.pair Kd.string (Kd.pair (Kd.int .i64) (Kd.int .i64)))))) (fun x : S35 => (x.f0, x.f1, x.f2, x.f3, x.f4, x.f5))
theorem k35_open {w : World} {x : S35} {cs : List Value} (h : k35.K w x cs) : cs = [.int .i64 x.f0, .int .i64 x.f1, .int .u64 x.f2.f0, .int .u64 x.f2.f1, .int .u64 x.f2.f2, .int .u64 x.f2.f3, .string x.f3, .int .i64 x.f4, .int .i64 x.f5] := by
  obtain ⟨_, _, rfl, rfl, ⟨_, _, rfl, rfl, ⟨_, _, rfl, s2, ⟨_, _, rfl, rfl, ⟨_, _, rfl, rfl, rfl⟩⟩⟩⟩⟩ := h
  obtain rfl := k33_open s2
  exact rfl
theorem k35_mkM (w : World) (base : Nat) (ok : Nat → Prop) (x : S35)  : k35.M w base ok x [.int .i64 x.f0, .int .i64 x.f1, .int .u64 x.f2.f0, .int .u64 x.f2.f1, .int .u64 x.f2.f2, .int .u64 x.f2.f3, .string x.f3, .int .i64 x.f4, .int .i64 x.f5] := ⟨[.int .i64 x.f0], [.int .i64 x.f1, .int .u64 x.f2.f0, .int .u64 x.f2.f1, .int .u64 x.f2.f2, .int .u64 x.f2.f3, .string x.f3, .int .i64 x.f4, .int .i64 x.f5], rfl, rfl, ⟨[.int .i64 x.f1], [.int .u64 x.f2.f0, .int .u64 x.f2.f1, .int .u64 x.f2.f2, .int .u64 x.f2.f3, .string x.f3, .int .i64 x.f4, .int .i64 x.f5], rfl, rfl, ⟨[.int .u64 x.f2.f0, .int .u64 x.f2.f1, .int .u64 x.f2.f2, .int .u64 x.f2.f3], [.string x.f3, .int .i64 x.f4, .int .i64 x.f5], rfl, (k33_mkM w base ok x.f2 ), ⟨[.string x.f3], [.int .i64 x.f4, .int .i64 x.f5], rfl, rfl, ⟨[.int .i64 x.f4], [.int .i64 x.f5], rfl, rfl, rfl⟩⟩⟩⟩⟩
def rd_T35 (xs : List S35) (i : Int) : S35 := xs.getD i.toNat z35
theorem at_T35 {w : World} {A : Option Addr} {n : Nat} {xs : List S35} (h : Kd.C k35 w A n xs) (i : Int) (h0 : 0 ≤ i) (h1 : i < n) : ∃ ad , A = some ad ∧ w.cell? (ad.add (i.toNat * 9)) = some (.int .i64 (rd_T35 xs i).f0) ∧ w.cell? ⟨(ad.add (i.toNat * 9)).block, (ad.add (i.toNat * 9)).off + 1, none⟩ = some (.int .i64 (rd_T35 xs i).f1) ∧ w.cell? ⟨(ad.add (i.toNat * 9)).block, (ad.add (i.toNat * 9)).off + 2, none⟩ = some (.int .u64 (rd_T35 xs i).f2.f0) ∧ w.cell? ⟨(ad.add (i.toNat * 9)).block, (ad.add (i.toNat * 9)).off + 3, none⟩ = some (.int .u64 (rd_T35 xs i).f2.f1) ∧ w.cell? ⟨(ad.add (i.toNat * 9)).block, (ad.add (i.toNat * 9)).off + 4, none⟩ = some (.int .u64 (rd_T35 xs i).f2.f2) ∧ w.cell? ⟨(ad.add (i.toNat * 9)).block, (ad.add (i.toNat * 9)).off + 5, none⟩ = some (.int .u64 (rd_T35 xs i).f2.f3) ∧ w.cell? ⟨(ad.add (i.toNat * 9)).block, (ad.add (i.toNat * 9)).off + 6, none⟩ = some (.string (rd_T35 xs i).f3) ∧ w.cell? ⟨(ad.add (i.toNat * 9)).block, (ad.add (i.toNat * 9)).off + 7, none⟩ = some (.int .i64 (rd_T35 xs i).f4) ∧ w.cell? ⟨(ad.add (i.toNat * 9)).block, (ad.add (i.toNat * 9)).off + 8, none⟩ = some (.int .i64 (rd_T35 xs i).f5) := by
  obtain ⟨ad, c, e, _, hK, hc0⟩ := Kd.C_get h z35 i h0 h1
  have hc : ∀ j u, c[j]? = some u → w.cell? (ad.add (i.toNat * 9 + j)) = some u := hc0
  obtain rfl := k35_open hK
  exact ⟨ad, e, hc 0 _ rfl, by rw [← add_field _ _ 1 (by omega)]; exact hc 1 _ rfl, by rw [← add_field _ _ 2 (by omega)]; exact hc 2 _ rfl, by rw [← add_field _ _ 3 (by omega)]; exact hc 3 _ rfl, by rw [← add_field _ _ 4 (by omega)]; exact hc 4 _ rfl, by rw [← add_field _ _ 5 (by omega)]; exact hc 5 _ rfl, by rw [← add_field _ _ 6 (by omega)]; exact hc 6 _ rfl, by rw [← add_field _ _ 7 (by omega)]; exact hc 7 _ rfl, by rw [← add_field _ _ 8 (by omega)]; exact hc 8 _ rfl⟩
end Go.Proofs.YtepnbnpgifpfbaaDoor.G
namespace Go.Proofs.YtepnbnpgifpfbaaDoor.G
open Go.RowKit Go.Proofs.YtepnbnpgifpfbaaDoorW.PrintWords
theorem put9h {W : World} {g : Nat} {t : TypeId} {b0 b1 b2 b3 b4 b5 b6 b7 b8 : Value} (h : W.heap[g]? = some (.cells #[b0, b1, b2, b3, b4, b5, b6, b7, b8] t (0, 0))) {a0 a1 a2 a3 a4 a5 a6 a7 a8 : Value} :
    (((((((((W.setCell ⟨g, 0, none⟩ (a0)).setCell ⟨g, 1, none⟩ (a1)).setCell ⟨g, 2, none⟩ (a2)).setCell ⟨g, 3, none⟩ (a3)).setCell ⟨g, 4, none⟩ (a4)).setCell ⟨g, 5, none⟩ (a5)).setCell ⟨g, 6, none⟩ (a6)).setCell ⟨g, 7, none⟩ (a7)).setCell ⟨g, 8, none⟩ (a8)).heap[g]? = some (.cells #[a0, a1, a2, a3, a4, a5, a6, a7, a8] t (0, 0)) := by
  refine blk_put (cs := #[a0, a1, a2, a3, a4, a5, a6, a7, b8]) ?_ 8 _ rfl
  refine blk_put (cs := #[a0, a1, a2, a3, a4, a5, a6, b7, b8]) ?_ 7 _ rfl
  refine blk_put (cs := #[a0, a1, a2, a3, a4, a5, b6, b7, b8]) ?_ 6 _ rfl
  refine blk_put (cs := #[a0, a1, a2, a3, a4, b5, b6, b7, b8]) ?_ 5 _ rfl
  refine blk_put (cs := #[a0, a1, a2, a3, b4, b5, b6, b7, b8]) ?_ 4 _ rfl
  refine blk_put (cs := #[a0, a1, a2, b3, b4, b5, b6, b7, b8]) ?_ 3 _ rfl
  refine blk_put (cs := #[a0, a1, b2, b3, b4, b5, b6, b7, b8]) ?_ 2 _ rfl
  refine blk_put (cs := #[a0, b1, b2, b3, b4, b5, b6, b7, b8]) ?_ 1 _ rfl
  refine blk_put (cs := #[b0, b1, b2, b3, b4, b5, b6, b7, b8]) ?_ 0 _ rfl
  exact h
theorem cells9 {W : World} {g : Nat} {t : TypeId} {b0 b1 b2 b3 b4 b5 b6 b7 b8 : Value} (h : W.heap[g]? = some (.cells #[b0, b1, b2, b3, b4, b5, b6, b7, b8] t (0, 0))) :
    W.cell? ⟨g, 0, none⟩ = some b0 ∧ W.cell? ⟨g, 1, none⟩ = some b1 ∧ W.cell? ⟨g, 2, none⟩ = some b2 ∧ W.cell? ⟨g, 3, none⟩ = some b3 ∧ W.cell? ⟨g, 4, none⟩ = some b4 ∧ W.cell? ⟨g, 5, none⟩ = some b5 ∧ W.cell? ⟨g, 6, none⟩ = some b6 ∧ W.cell? ⟨g, 7, none⟩ = some b7 ∧ W.cell? ⟨g, 8, none⟩ = some b8 ∧
    W.frozen? ⟨g, 0, none⟩ = false ∧ W.frozen? ⟨g, 1, none⟩ = false ∧ W.frozen? ⟨g, 2, none⟩ = false ∧ W.frozen? ⟨g, 3, none⟩ = false ∧ W.frozen? ⟨g, 4, none⟩ = false ∧ W.frozen? ⟨g, 5, none⟩ = false ∧ W.frozen? ⟨g, 6, none⟩ = false ∧ W.frozen? ⟨g, 7, none⟩ = false ∧ W.frozen? ⟨g, 8, none⟩ = false :=
  ⟨(blk_cell h 0).trans rfl, (blk_cell h 1).trans rfl, (blk_cell h 2).trans rfl, (blk_cell h 3).trans rfl, (blk_cell h 4).trans rfl, (blk_cell h 5).trans rfl, (blk_cell h 6).trans rfl, (blk_cell h 7).trans rfl, (blk_cell h 8).trans rfl,
    blk_frozen h 0, blk_frozen h 1, blk_frozen h 2, blk_frozen h 3, blk_frozen h 4, blk_frozen h 5, blk_frozen h 6, blk_frozen h 7, blk_frozen h 8⟩
theorem put4h {W : World} {g : Nat} {t : TypeId} {b0 b1 b2 b3 : Value} (h : W.heap[g]? = some (.cells #[b0, b1, b2, b3] t (0, 0))) {a0 a1 a2 a3 : Value} :
    ((((W.setCell ⟨g, 0, none⟩ (a0)).setCell ⟨g, 1, none⟩ (a1)).setCell ⟨g, 2, none⟩ (a2)).setCell ⟨g, 3, none⟩ (a3)).heap[g]? = some (.cells #[a0, a1, a2, a3] t (0, 0)) := by
  refine blk_put (cs := #[a0, a1, a2, b3]) ?_ 3 _ rfl
  refine blk_put (cs := #[a0, a1, b2, b3]) ?_ 2 _ rfl
  refine blk_put (cs := #[a0, b1, b2, b3]) ?_ 1 _ rfl
  refine blk_put (cs := #[b0, b1, b2, b3]) ?_ 0 _ rfl
  exact h
theorem cells4 {W : World} {g : Nat} {t : TypeId} {b0 b1 b2 b3 : Value} (h : W.heap[g]? = some (.cells #[b0, b1, b2, b3] t (0, 0))) :
    W.cell? ⟨g, 0, none⟩ = some b0 ∧ W.cell? ⟨g, 1, none⟩ = some b1 ∧ W.cell? ⟨g, 2, none⟩ = some b2 ∧ W.cell? ⟨g, 3, none⟩ = some b3 ∧
    W.frozen? ⟨g, 0, none⟩ = false ∧ W.frozen? ⟨g, 1, none⟩ = false ∧ W.frozen? ⟨g, 2, none⟩ = false ∧ W.frozen? ⟨g, 3, none⟩ = false :=
  ⟨(blk_cell h 0).trans rfl, (blk_cell h 1).trans rfl, (blk_cell h 2).trans rfl, (blk_cell h 3).trans rfl, blk_frozen h 0, blk_frozen h 1, blk_frozen h 2, blk_frozen h 3⟩
theorem bkx {W W' : World} {g : Nat} {o : Obj} (h : Aside0 (W.heap[g]? = some o)) (s : W.heap[g]? = some o → W'.heap[g]? = some o := by intro h_; (with_reducible repeat (first | refine blk_drewN ?_ _ | refine blk_drew ?_ | refine blk_alloc ?_ _)); exact h_) : W'.heap[g]? = some o := s h.out
theorem belx {n : Nat} {w W W' : World} (h : Aside0 (Below n w W)) (s : Below n w W → Below n w W' := by intro h_; repeat (first | (with_reducible first | exact h_ | apply below_alloc | apply pw_below_drewN | apply below_drew1) | exact h_)) : Below n w W' := s h.out
theorem belx1 {n g1 : Nat} {w W W' : World} (h : Aside0 (Below n w W)) (e1 : Aside0 (n ≤ g1)) (s : n ≤ g1 → Below n w W → Below n w W' := by intro e1_ h_; repeat (first | (with_reducible first | exact h_ | apply below_alloc | apply pw_below_drewN | apply below_drew1 | refine below_set ?_ e1_) | exact h_)) : Below n w W' := s e1.out h.out
theorem belx2 {n g1 g2 : Nat} {w W W' : World} (h : Aside0 (Below n w W)) (e1 : Aside0 (n ≤ g1)) (e2 : Aside0 (n ≤ g2)) (s : n ≤ g1 → n ≤ g2 → Below n w W → Below n w W' := by intro e1_ e2_ h_; repeat (first | (with_reducible first | exact h_ | apply below_alloc | apply pw_below_drewN | apply below_drew1 | refine below_set ?_ e1_ | refine below_set ?_ e2_) | exact h_)) : Below n w W' := s e1.out e2.out h.out
theorem belx3 {n g1 g2 g3 : Nat} {w W W' : World} (h : Aside0 (Below n w W)) (e1 : Aside0 (n ≤ g1)) (e2 : Aside0 (n ≤ g2)) (e3 : Aside0 (n ≤ g3)) (s : n ≤ g1 → n ≤ g2 → n ≤ g3 → Below n w W → Below n w W' := by intro e1_ e2_ e3_ h_; repeat (first | (with_reducible first | exact h_ | apply below_alloc | apply pw_below_drewN | apply below_drew1 | refine below_set ?_ e1_ | refine below_set ?_ e2_ | refine below_set ?_ e3_) | exact h_)) : Below n w W' := s e1.out e2.out e3.out h.out
theorem odt {p : Prop} [Decidable p] (h : decide p = true := by first | (with_reducible assumption) | assumption) : p := of_decide_eq_true h
end Go.Proofs.YtepnbnpgifpfbaaDoor.G
namespace Go.Proofs.YtepnbnpgifpfbaaDoor.G
open Go.RowKit Go.Proofs.YtepnbnpgifpfbaaDoorW.PrintWords Go.MapKept
theorem setIfInBounds_push (a : Array Obj) (x y : Obj) : (a.push x).setIfInBounds a.size y = a.push y := by
  apply Array.ext_getElem?
  intro i
  rw [Array.getElem?_setIfInBounds, Array.getElem?_push, Array.getElem?_push]
  split
  · simp_all
  · rename_i h
    rw [if_neg (fun e => h e.symm), if_neg (fun e => h e.symm)]
theorem run_insert_new {P : Program} {t k e : TypeId} (ht : P.underlying t = some (.map k e)) (hk : P.underlying k = some (.int .u8)) (w : World) (es : Array MapEntry) (clk : Nat) (c : Int) (v : Value)
    (hf : Instr.findNow (.int .u8) (.int .u8 c) es.toList 0 = some none) :
    (Instr.mapUpdate t (.map (some w.heap.size)) (.int .u8 c) v).run P (w.alloc (.map es clk)) = .ok () (w.alloc (.map (es.push ⟨.int .u8 c, v, clk⟩) (clk + 1))) := by
  have hb : (w.alloc (.map es clk)).heap[w.heap.size]? = some (.map es clk) := (MapKept.heap_alloc w _).1
  simp [Instr.mapUpdate, run_underlying ht, MapKept.run_getObj_map hb, run_checkKey hk (show IsKey (.int .u8) (.int .u8 c) from rfl), run_findKey hk hf, MapKept.run_setObj_map _ hb, Result.andThen]
  show ({ w with heap := (w.heap.push (.map es clk)).setIfInBounds w.heap.size _ } : World) = { w with heap := w.heap.push _ }
  rw [setIfInBounds_push]
theorem run_look {P : Program} {t k e : TypeId} (ht : P.underlying t = some (.map k e)) (hk : P.underlying k = some (.int .u8)) {w : World} {r : Nat} {es : Array MapEntry} {clk : Nat} (hb : w.heap[r]? = some (.map es clk)) (c : Int) (i : Nat) (v : Value)
    (hf : Instr.findNow (.int .u8) (.int .u8 c) es.toList 0 = some (some (i, v))) :
    (Instr.lookup t (.map (some r)) (.int .u8 c) true).run P w = .ok (.tuple #[v, .bool true]) w := by
  simp [Instr.lookup, run_underlying ht, MapKept.run_getObj_map hb, run_checkKey hk (show IsKey (.int .u8) (.int .u8 c) from rfl), run_findKey hk hf, Result.andThen]
theorem run_look_none {P : Program} {t k e : TypeId} (ht : P.underlying t = some (.map k e)) (hk : P.underlying k = some (.int .u8)) {w : World} {r : Nat} {es : Array MapEntry} {clk : Nat} (hb : w.heap[r]? = some (.map es clk)) (c : Int) (z : Value)
    (hz : (zeroValue e).run P w = .ok z w) (hf : Instr.findNow (.int .u8) (.int .u8 c) es.toList 0 = some none) :
    (Instr.lookup t (.map (some r)) (.int .u8 c) true).run P w = .ok (.tuple #[z, .bool false]) w := by
  simp [Instr.lookup, run_underlying ht, MapKept.run_getObj_map hb, run_checkKey hk (show IsKey (.int .u8) (.int .u8 c) from rfl), run_findKey hk hf, hz, Result.andThen]
def shortsE : Array MapEntry := #[⟨.int .u8 40, .int .i64 3, 0⟩, ⟨.int .u8 41, .int .i64 4, 1⟩, ⟨.int .u8 124, .int .i64 5, 2⟩, ⟨.int .u8 42, .int .i64 6, 3⟩, ⟨.int .u8 98, .int .i64 8, 4⟩, ⟨.int .u8 119, .int .i64 9, 5⟩]
theorem shorts.calls (w : World) : Calls Tryd.prog 28 #[] w fun e w' => e = .returned (.map (some w.heap.size)) ∧ w' = w.alloc (.map shortsE 6) := by
  have hmm := @run_makeMap Tryd.prog
  have i0 : (Instr.mapUpdate 57 (.map (some w.heap.size)) (.int .u8 40) (.int .i64 3)).run Tryd.prog (w.alloc (.map #[] 0)) = .ok () (w.alloc (.map #[⟨.int .u8 40, .int .i64 3, 0⟩] 1)) := run_insert_new Tryd.underlying57 Tryd.underlying5 w #[] 0 40 (.int .i64 3) rfl
  have i1 : (Instr.mapUpdate 57 (.map (some w.heap.size)) (.int .u8 41) (.int .i64 4)).run Tryd.prog (w.alloc (.map #[⟨.int .u8 40, .int .i64 3, 0⟩] 1)) = .ok () (w.alloc (.map #[⟨.int .u8 40, .int .i64 3, 0⟩, ⟨.int .u8 41, .int .i64 4, 1⟩] 2)) := run_insert_new Tryd.underlying57 Tryd.underlying5 w #[⟨.int .u8 40, .int .i64 3, 0⟩] 1 41 (.int .i64 4) rfl
  have i2 : (Instr.mapUpdate 57 (.map (some w.heap.size)) (.int .u8 124) (.int .i64 5)).run Tryd.prog (w.alloc (.map #[⟨.int .u8 40, .int .i64 3, 0⟩, ⟨.int .u8 41, .int .i64 4, 1⟩] 2)) = .ok () (w.alloc (.map #[⟨.int .u8 40, .int .i64 3, 0⟩, ⟨.int .u8 41, .int .i64 4, 1⟩, ⟨.int .u8 124, .int .i64 5, 2⟩] 3)) := run_insert_new Tryd.underlying57 Tryd.underlying5 w #[⟨.int .u8 40, .int .i64 3, 0⟩, ⟨.int .u8 41, .int .i64 4, 1⟩] 2 124 (.int .i64 5) rfl
  have i3 : (Instr.mapUpdate 57 (.map (some w.heap.size)) (.int .u8 42) (.int .i64 6)).run Tryd.prog (w.alloc (.map #[⟨.int .u8 40, .int .i64 3, 0⟩, ⟨.int .u8 41, .int .i64 4, 1⟩, ⟨.int .u8 124, .int .i64 5, 2⟩] 3)) = .ok () (w.alloc (.map #[⟨.int .u8 40, .int .i64 3, 0⟩, ⟨.int .u8 41, .int .i64 4, 1⟩, ⟨.int .u8 124, .int .i64 5, 2⟩, ⟨.int .u8 42, .int .i64 6, 3⟩] 4)) := run_insert_new Tryd.underlying57 Tryd.underlying5 w #[⟨.int .u8 40, .int .i64 3, 0⟩, ⟨.int .u8 41, .int .i64 4, 1⟩, ⟨.int .u8 124, .int .i64 5, 2⟩] 3 42 (.int .i64 6) rfl
  have i4 : (Instr.mapUpdate 57 (.map (some w.heap.size)) (.int .u8 98) (.int .i64 8)).run Tryd.prog (w.alloc (.map #[⟨.int .u8 40, .int .i64 3, 0⟩, ⟨.int .u8 41, .int .i64 4, 1⟩, ⟨.int .u8 124, .int .i64 5, 2⟩, ⟨.int .u8 42, .int .i64 6, 3⟩] 4)) = .ok () (w.alloc (.map #[⟨.int .u8 40, .int .i64 3, 0⟩, ⟨.int .u8 41, .int .i64 4, 1⟩, ⟨.int .u8 124, .int .i64 5, 2⟩, ⟨.int .u8 42, .int .i64 6, 3⟩, ⟨.int .u8 98, .int .i64 8, 4⟩] 5)) := run_insert_new Tryd.underlying57 Tryd.underlying5 w #[⟨.int .u8 40, .int .i64 3, 0⟩, ⟨.int .u8 41, .int .i64 4, 1⟩, ⟨.int .u8 124, .int .i64 5, 2⟩, ⟨.int .u8 42, .int .i64 6, 3⟩] 4 98 (.int .i64 8) rfl
  have i5 : (Instr.mapUpdate 57 (.map (some w.heap.size)) (.int .u8 119) (.int .i64 9)).run Tryd.prog (w.alloc (.map #[⟨.int .u8 40, .int .i64 3, 0⟩, ⟨.int .u8 41, .int .i64 4, 1⟩, ⟨.int .u8 124, .int .i64 5, 2⟩, ⟨.int .u8 42, .int .i64 6, 3⟩, ⟨.int .u8 98, .int .i64 8, 4⟩] 5)) = .ok () (w.alloc (.map #[⟨.int .u8 40, .int .i64 3, 0⟩, ⟨.int .u8 41, .int .i64 4, 1⟩, ⟨.int .u8 124, .int .i64 5, 2⟩, ⟨.int .u8 42, .int .i64 6, 3⟩, ⟨.int .u8 98, .int .i64 8, 4⟩, ⟨.int .u8 119, .int .i64 9, 5⟩] 6)) := run_insert_new Tryd.underlying57 Tryd.underlying5 w #[⟨.int .u8 40, .int .i64 3, 0⟩, ⟨.int .u8 41, .int .i64 4, 1⟩, ⟨.int .u8 124, .int .i64 5, 2⟩, ⟨.int .u8 42, .int .i64 6, 3⟩, ⟨.int .u8 98, .int .i64 8, 4⟩] 5 119 (.int .i64 9) rfl
  go_enter Tryd.func28, Tryd.ntmps28
  go_wp2
  go_ret
  exact ⟨rfl, rfl⟩
def longsE : Array MapEntry := #[⟨.int .u8 60, .agg #[.int .u8 62, .int .i64 2, .func (.func 37) #[] #[]], 0⟩, ⟨.int .u8 34, .agg #[.int .u8 34, .int .i64 3, .func (.func 38) #[] #[]], 1⟩, ⟨.int .u8 123, .agg #[.int .u8 125, .int .i64 4, .func (.func 39) #[] #[]], 2⟩]
theorem longs.calls (w : World) : Calls Tryd.prog 30 #[] w fun e w' => e = .returned (.map (some w.heap.size)) ∧ w' = w.alloc (.map longsE 3) := by
  have hmm := @run_makeMap Tryd.prog
  have i0 : (Instr.mapUpdate 63 (.map (some w.heap.size)) (.int .u8 60) (.agg #[.int .u8 62, .int .i64 2, .func (.func 37) #[] #[]])).run Tryd.prog (w.alloc (.map #[] 0)) = .ok () (w.alloc (.map #[⟨.int .u8 60, .agg #[.int .u8 62, .int .i64 2, .func (.func 37) #[] #[]], 0⟩] 1)) := run_insert_new Tryd.underlying63 Tryd.underlying5 w #[] 0 60 (.agg #[.int .u8 62, .int .i64 2, .func (.func 37) #[] #[]]) rfl
  have i1 : (Instr.mapUpdate 63 (.map (some w.heap.size)) (.int .u8 34) (.agg #[.int .u8 34, .int .i64 3, .func (.func 38) #[] #[]])).run Tryd.prog (w.alloc (.map #[⟨.int .u8 60, .agg #[.int .u8 62, .int .i64 2, .func (.func 37) #[] #[]], 0⟩] 1)) = .ok () (w.alloc (.map #[⟨.int .u8 60, .agg #[.int .u8 62, .int .i64 2, .func (.func 37) #[] #[]], 0⟩, ⟨.int .u8 34, .agg #[.int .u8 34, .int .i64 3, .func (.func 38) #[] #[]], 1⟩] 2)) := run_insert_new Tryd.underlying63 Tryd.underlying5 w #[⟨.int .u8 60, .agg #[.int .u8 62, .int .i64 2, .func (.func 37) #[] #[]], 0⟩] 1 34 (.agg #[.int .u8 34, .int .i64 3, .func (.func 38) #[] #[]]) rfl
  have i2 : (Instr.mapUpdate 63 (.map (some w.heap.size)) (.int .u8 123) (.agg #[.int .u8 125, .int .i64 4, .func (.func 39) #[] #[]])).run Tryd.prog (w.alloc (.map #[⟨.int .u8 60, .agg #[.int .u8 62, .int .i64 2, .func (.func 37) #[] #[]], 0⟩, ⟨.int .u8 34, .agg #[.int .u8 34, .int .i64 3, .func (.func 38) #[] #[]], 1⟩] 2)) = .ok () (w.alloc (.map #[⟨.int .u8 60, .agg #[.int .u8 62, .int .i64 2, .func (.func 37) #[] #[]], 0⟩, ⟨.int .u8 34, .agg #[.int .u8 34, .int .i64 3, .func (.func 38) #[] #[]], 1⟩, ⟨.int .u8 123, .agg #[.int .u8 125, .int .i64 4, .func (.func 39) #[] #[]], 2⟩] 3)) := run_insert_new Tryd.underlying63 Tryd.underlying5 w #[⟨.int .u8 60, .agg #[.int .u8 62, .int .i64 2, .func (.func 37) #[] #[]], 0⟩, ⟨.int .u8 34, .agg #[.int .u8 34, .int .i64 3, .func (.func 38) #[] #[]], 1⟩] 2 123 (.agg #[.int .u8 125, .int .i64 4, .func (.func 39) #[] #[]]) rfl
  go_enter Tryd.func30, Tryd.ntmps30
  go_wp2
  go_ret
  exact ⟨rfl, rfl⟩
end Go.Proofs.YtepnbnpgifpfbaaDoor.G
namespace Go.Proofs.YtepnbnpgifpfbaaDoor.G
open Go.RowKit Go.Proofs.YtepnbnpgifpfbaaDoorW.PrintWords
def strings_IndexByte.f (a0 : ByteArray) (a1 : Int) : Option Int := some (Lib.indexByte a0.data.toList a1.toNat.toUInt8)
theorem strings_IndexByte.calls (a0 : ByteArray) (a1 : Int) (r : Int) (w : World) (h : strings_IndexByte.f a0 a1 = some r) :
    Calls Tryd.prog 31 #[.string a0, .int .u8 a1] w fun e w' => e = .returned (.int .i64 r) ∧ Drawn0 w w' := by
  obtain rfl := Option.some.inj h
  refine (Tryd.strings_IndexByte a0 a1 w).mono ?_
  rintro e w' ⟨rfl, rfl⟩
  exact ⟨rfl, Drawn0.refl _⟩
def strings_Cut.f (a0 a1 : ByteArray) : Option (ByteArray × ByteArray × Bool) :=
  if a0.size < 4294967281 then some (⟨(Lib.cut a0.data.toList a1.data.toList).1.toArray⟩, ⟨(Lib.cut a0.data.toList a1.data.toList).2.1.toArray⟩, (Lib.cut a0.data.toList a1.data.toList).2.2) else none
theorem strings_Cut.calls (a0 : ByteArray) (a1 : ByteArray) (r1 : ByteArray) (r2 : ByteArray) (r3 : Bool) (w : World) (hL_ : LaidW w) (h : strings_Cut.f a0 a1 = some (r1, r2, r3)) :
    Calls Tryd.prog 46 #[.string a0, .string a1] w fun e w' => e = .returned (.tuple #[.string r1, .string r2, .bool r3]) ∧ Drawn0 w w' := by
  unfold strings_Cut.f at h
  split at h
  case isFalse => cases h
  case isTrue hs =>
    have h' := Option.some.inj h
    simp only [Prod.mk.injEq] at h'
    obtain ⟨rfl, rfl, rfl⟩ := h'
    refine (Tryd.strings_Cut_shaped a0 a1 w hL_.shaped hs).mono ?_
    rintro e w' ⟨rfl, n, rfl⟩
    exact ⟨rfl, ⟨⟨n, rfl⟩⟩⟩
def strings_Split.f (a0 a1 : ByteArray) : Option (List ByteArray) :=
  if a0.size < 4294967281 ∧ 1 ≤ a1.size then some (Lib.splitB a1 0 (Lib.countB a0 a1) a0) else none
theorem strings_Split.calls (a0 : ByteArray) (a1 : ByteArray) (r : List ByteArray) (w : World) (hL_ : LaidW w) (h : strings_Split.f a0 a1 = some r) :
    Calls Tryd.prog 43 #[.string a0, .string a1] w fun e w' => ∃ v0_ : Value, e = .returned (v0_) ∧ Kd.R Kd.string 9 w' w.heap.size (fun _ => True) v0_ r ∧ Below w.heap.size w w' := by
  unfold strings_Split.f at h
  split at h
  case isFalse => cases h
  case isTrue hs =>
    obtain rfl := Option.some.inj h
    have hlen := Lib.splitB_all a1 hs.2 0 _ a0 rfl
    have hle := Lib.countB_le a1 hs.2 a0.size a0 (Nat.le_refl _)
    refine (Tryd.strings_Split_shaped a0 a1 w hL_.shaped hs.1 hs.2).mono ?_
    rintro e w' ⟨rfl, rfl⟩
    refine ⟨_, rfl, ?_, below_alloc (Below.refl _ _) _⟩
    refine Kd.R_of_own ?_ (fun _ _ => trivial)
    rw [hlen]
    refine ⟨by simp [encs, hlen], .inr ⟨w.heap.size, _, _, rfl, Nat.le_refl _, heap_alloc_new w _, Nat.le_refl _, by simp only [maxLen]; omega, by simp [hlen], ?_⟩⟩
    rw [List.take_of_length_le (by simp [hlen])]
    rfl
end Go.Proofs.YtepnbnpgifpfbaaDoor.G
namespace Go.Proofs.YtepnbnpgifpfbaaDoor.G
open Go.RowKit Go.Proofs.YtepnbnpgifpfbaaDoorW.PrintWords
def orw (x : Int) (c : Nat) : Int := bits .or .u64 x (IntKind.u64.wrap (2 ^ (c % 64)))
set_option maxHeartbeats 400000 in
theorem add_q0 (x0 x1 x2 x3 : Int) (c : Nat) (hc : (c : Int) / 64 = 0) (h0 : (0 : Int) ≤ c) (h1 : (c : Int) ≤ 255) (ad : Addr) (cp : Nat) (w : World) (hcell : w.cell? ad = some (.int .u8 c)) :
    Calls Tryd.prog 62 #[.agg #[.int .u64 x0, .int .u64 x1, .int .u64 x2, .int .u64 x3], .slice (some ad) 1 cp] w fun e w' => e = .returned (.agg #[.int .u64 (orw x0 c), .int .u64 x1, .int .u64 x2, .int .u64 x3]) ∧ Below w.heap.size w w' := by
  have hc2 : ∀ A B, ((w.alloc A).alloc B).cell? ad = some (.int .u8 c) := fun A B => pw_cell_below (below_alloc (below_alloc (Below.refl _ _) _) _) hcell
  go_enter Tryd.func62, Tryd.ntmps62
  go_wp2
  refine wp_loop_rounds 2 ?_
  rw [rounds_succ]
  go_wp2
  rw [rounds_succ]
  go_wp2
  exact bodyPost_ret (v := .agg #[.int .u64 (bits .or .u64 x0 (IntKind.u64.wrap (2 ^ (c % 64)))), .int .u64 x1, .int .u64 x2, .int .u64 x3]) (by simp [results, Tryd.results62, go_sem]) rfl ⟨rfl, by repeat (first | exact Below.refl _ _ | apply below_alloc)⟩
set_option maxHeartbeats 400000 in
theorem add_q1 (x0 x1 x2 x3 : Int) (c : Nat) (hc : (c : Int) / 64 = 1) (h0 : (0 : Int) ≤ c) (h1 : (c : Int) ≤ 255) (ad : Addr) (cp : Nat) (w : World) (hcell : w.cell? ad = some (.int .u8 c)) :
    Calls Tryd.prog 62 #[.agg #[.int .u64 x0, .int .u64 x1, .int .u64 x2, .int .u64 x3], .slice (some ad) 1 cp] w fun e w' => e = .returned (.agg #[.int .u64 x0, .int .u64 (orw x1 c), .int .u64 x2, .int .u64 x3]) ∧ Below w.heap.size w w' := by
  have hc2 : ∀ A B, ((w.alloc A).alloc B).cell? ad = some (.int .u8 c) := fun A B => pw_cell_below (below_alloc (below_alloc (Below.refl _ _) _) _) hcell
  go_enter Tryd.func62, Tryd.ntmps62
  go_wp2
  refine wp_loop_rounds 2 ?_
  rw [rounds_succ]
  go_wp2
  rw [rounds_succ]
  go_wp2
  exact bodyPost_ret (v := .agg #[.int .u64 x0, .int .u64 (bits .or .u64 x1 (IntKind.u64.wrap (2 ^ (c % 64)))), .int .u64 x2, .int .u64 x3]) (by simp [results, Tryd.results62, go_sem]) rfl ⟨rfl, by repeat (first | exact Below.refl _ _ | apply below_alloc)⟩
set_option maxHeartbeats 400000 in
theorem add_q2 (x0 x1 x2 x3 : Int) (c : Nat) (hc : (c : Int) / 64 = 2) (h0 : (0 : Int) ≤ c) (h1 : (c : Int) ≤ 255) (ad : Addr) (cp : Nat) (w : World) (hcell : w.cell? ad = some (.int .u8 c)) :
    Calls Tryd.prog 62 #[.agg #[.int .u64 x0, .int .u64 x1, .int .u64 x2, .int .u64 x3], .slice (some ad) 1 cp] w fun e w' => e = .returned (.agg #[.int .u64 x0, .int .u64 x1, .int .u64 (orw x2 c), .int .u64 x3]) ∧ Below w.heap.size w w' := by
  have hc2 : ∀ A B, ((w.alloc A).alloc B).cell? ad = some (.int .u8 c) := fun A B => pw_cell_below (below_alloc (below_alloc (Below.refl _ _) _) _) hcell
  go_enter Tryd.func62, Tryd.ntmps62
  go_wp2
  refine wp_loop_rounds 2 ?_
  rw [rounds_succ]
  go_wp2
  rw [rounds_succ]
  go_wp2
  exact bodyPost_ret (v := .agg #[.int .u64 x0, .int .u64 x1, .int .u64 (bits .or .u64 x2 (IntKind.u64.wrap (2 ^ (c % 64)))), .int .u64 x3]) (by simp [results, Tryd.results62, go_sem]) rfl ⟨rfl, by repeat (first | exact Below.refl _ _ | apply below_alloc)⟩
set_option maxHeartbeats 400000 in
theorem add_q3 (x0 x1 x2 x3 : Int) (c : Nat) (hc : (c : Int) / 64 = 3) (h0 : (0 : Int) ≤ c) (h1 : (c : Int) ≤ 255) (ad : Addr) (cp : Nat) (w : World) (hcell : w.cell? ad = some (.int .u8 c)) :
    Calls Tryd.prog 62 #[.agg #[.int .u64 x0, .int .u64 x1, .int .u64 x2, .int .u64 x3], .slice (some ad) 1 cp] w fun e w' => e = .returned (.agg #[.int .u64 x0, .int .u64 x1, .int .u64 x2, .int .u64 (orw x3 c)]) ∧ Below w.heap.size w w' := by
  have hc2 : ∀ A B, ((w.alloc A).alloc B).cell? ad = some (.int .u8 c) := fun A B => pw_cell_below (below_alloc (below_alloc (Below.refl _ _) _) _) hcell
  go_enter Tryd.func62, Tryd.ntmps62
  go_wp2
  refine wp_loop_rounds 2 ?_
  rw [rounds_succ]
  go_wp2
  rw [rounds_succ]
  go_wp2
  exact bodyPost_ret (v := .agg #[.int .u64 x0, .int .u64 x1, .int .u64 x2, .int .u64 (bits .or .u64 x3 (IntKind.u64.wrap (2 ^ (c % 64))))]) (by simp [results, Tryd.results62, go_sem]) rfl ⟨rfl, by repeat (first | exact Below.refl _ _ | apply below_alloc)⟩
def addw (x : Int × Int × Int × Int) (c : Nat) : Int × Int × Int × Int :=
  (if c / 64 = 0 then orw x.1 c else x.1, if c / 64 = 1 then orw x.2.1 c else x.2.1, if c / 64 = 2 then orw x.2.2.1 c else x.2.2.1, if c / 64 = 3 then orw x.2.2.2 c else x.2.2.2)
theorem add_any (x0 x1 x2 x3 : Int) (c : Nat) (h1 : c ≤ 255) (ad : Addr) (cp : Nat) (w : World) (hcell : w.cell? ad = some (.int .u8 c)) :
    Calls Tryd.prog 62 #[.agg #[.int .u64 x0, .int .u64 x1, .int .u64 x2, .int .u64 x3], .slice (some ad) 1 cp] w fun e w' => e = .returned (.agg #[.int .u64 (addw (x0, x1, x2, x3) c).1, .int .u64 (addw (x0, x1, x2, x3) c).2.1, .int .u64 (addw (x0, x1, x2, x3) c).2.2.1, .int .u64 (addw (x0, x1, x2, x3) c).2.2.2]) ∧ Below w.heap.size w w' := by
  have hq : c / 64 = 0 ∨ c / 64 = 1 ∨ c / 64 = 2 ∨ c / 64 = 3 := by omega
  rcases hq with hq | hq | hq | hq
  · have := add_q0 x0 x1 x2 x3 c (by omega) (by omega) (by omega) ad cp w hcell; simpa [addw, hq] using this
  · have := add_q1 x0 x1 x2 x3 c (by omega) (by omega) (by omega) ad cp w hcell; simpa [addw, hq] using this
  · have := add_q2 x0 x1 x2 x3 c (by omega) (by omega) (by omega) ad cp w hcell; simpa [addw, hq] using this
  · have := add_q3 x0 x1 x2 x3 c (by omega) (by omega) (by omega) ad cp w hcell; simpa [addw, hq] using this
def class_Add.f (a0 a1 a2 a3 : Int) (l : List Int) : Option (Int × Int × Int × Int) :=
  match l with
  | [c] => if 0 ≤ c ∧ c ≤ 255 then some (addw (a0, a1, a2, a3) c.toNat) else none
  | _ => none
theorem class_Add.calls (a0 a1 a2 a3 : Int) (A1 : Option Addr) (c1 : Nat) (l1 : List Int) (r1 r2 r3 r4 : Int) (w : World) (hr1 : Kd.C (Kd.int .u8) w A1 l1.length l1) (hc1 : l1.length ≤ c1) (h : class_Add.f a0 a1 a2 a3 l1 = some (r1, r2, r3, r4)) :
    Calls Tryd.prog 62 #[.agg #[.int .u64 a0, .int .u64 a1, .int .u64 a2, .int .u64 a3], .slice A1 l1.length c1] w fun e w' => e = .returned (.agg #[.int .u64 r1, .int .u64 r2, .int .u64 r3, .int .u64 r4]) ∧ Below w.heap.size w w' := by
  match l1, h, hr1 with
  | [c], h, hr1 =>
    simp only [class_Add.f] at h
    split at h
    case isFalse => cases h
    case isTrue hc =>
      obtain ⟨ad, cs, rfl, _, hK, hcell⟩ := Kd.C_get hr1 0 0 (by omega) (by simp)
      obtain ⟨n, rfl⟩ := Int.eq_ofNat_of_zero_le hc.1
      have hK' : cs = [.int .u8 (n : Int)] := hK
      subst hK'
      have h0 := hcell 0 _ rfl
      have h1 : w.cell? ad = some (.int .u8 (n : Int)) := h0
      have := add_any a0 a1 a2 a3 n (by omega) ad c1 w h1
      have h' := Option.some.inj h
      rw [Int.toNat_natCast] at h'
      rw [h'] at this
      exact this
def class_Join.f (a0 a1 a2 a3 b0 b1 b2 b3 : Int) : Option (Int × Int × Int × Int) := some (bits .or .u64 a0 b0, bits .or .u64 a1 b1, bits .or .u64 a2 b2, bits .or .u64 a3 b3)
set_option maxHeartbeats 1000000 in
theorem class_Join.calls (a0 a1 a2 a3 b0 b1 b2 b3 : Int) (r1 r2 r3 r4 : Int) (w : World) (h : class_Join.f a0 a1 a2 a3 b0 b1 b2 b3 = some (r1, r2, r3, r4)) :
    Calls Tryd.prog 45 #[.agg #[.int .u64 a0, .int .u64 a1, .int .u64 a2, .int .u64 a3], .agg #[.int .u64 b0, .int .u64 b1, .int .u64 b2, .int .u64 b3]] w fun e w' => e = .returned (.agg #[.int .u64 r1, .int .u64 r2, .int .u64 r3, .int .u64 r4]) ∧ Below w.heap.size w w' := by
  have h' := Option.some.inj h
  simp only [Prod.mk.injEq] at h'
  obtain ⟨rfl, rfl, rfl, rfl⟩ := h'
  clear h
  go_enter Tryd.func45, Tryd.ntmps45
  go_wp2
  refine wp_loop_rounds 5 ?_
  rw [rounds_succ]
  go_wp2
  go_region
  go_wp2
  rw [rounds_succ]
  go_wp2
  go_region
  go_wp2
  rw [rounds_succ]
  go_wp2
  go_region
  go_wp2
  rw [rounds_succ]
  go_wp2
  go_region
  go_wp2
  rw [rounds_succ]
  go_wp2
  exact bodyPost_ret (v := .agg #[.int .u64 (bits .or .u64 a0 b0), .int .u64 (bits .or .u64 a1 b1), .int .u64 (bits .or .u64 a2 b2), .int .u64 (bits .or .u64 a3 b3)]) (by simp [results, Tryd.results45, go_sem]) rfl ⟨rfl, by repeat (first | exact Below.refl _ _ | apply below_alloc | apply below_drew1 | apply below_drew)⟩
def class_Not.f (a0 a1 a2 a3 : Int) : Option (Int × Int × Int × Int) := some (bits .xor .u64 IntKind.u64.max a0, bits .xor .u64 IntKind.u64.max a1, bits .xor .u64 IntKind.u64.max a2, bits .xor .u64 IntKind.u64.max a3)
set_option maxHeartbeats 400000 in
theorem class_Not.calls (a0 a1 a2 a3 : Int) (r1 r2 r3 r4 : Int) (w : World) (h : class_Not.f a0 a1 a2 a3 = some (r1, r2, r3, r4)) :
    Calls Tryd.prog 29 #[.agg #[.int .u64 a0, .int .u64 a1, .int .u64 a2, .int .u64 a3]] w fun e w' => e = .returned (.agg #[.int .u64 r1, .int .u64 r2, .int .u64 r3, .int .u64 r4]) ∧ Below w.heap.size w w' := by
  have h' := Option.some.inj h
  simp only [Prod.mk.injEq] at h'
  obtain ⟨rfl, rfl, rfl, rfl⟩ := h'
  clear h
  go_enter Tryd.func29, Tryd.ntmps29
  go_wp2
  refine wp_loop_rounds 5 ?_
  rw [rounds_succ]
  go_wp2
  rw [rounds_succ]
  go_wp2
  rw [rounds_succ]
  go_wp2
  rw [rounds_succ]
  go_wp2
  rw [rounds_succ]
  go_wp2
  exact bodyPost_ret (v := .agg #[.int .u64 (bits .xor .u64 IntKind.u64.max (a0)), .int .u64 (bits .xor .u64 IntKind.u64.max (a1)), .int .u64 (bits .xor .u64 IntKind.u64.max (a2)), .int .u64 (bits .xor .u64 IntKind.u64.max (a3))]) (by simp [results, Tryd.results29, go_sem]) rfl ⟨rfl, by repeat (first | exact Below.refl _ _ | apply below_alloc)⟩
end Go.Proofs.YtepnbnpgifpfbaaDoor.G
namespace Go.Proofs.YtepnbnpgifpfbaaDoor.G
open Go.RowKit Go.Proofs.YtepnbnpgifpfbaaDoorW.PrintWords
theorem heap_far (W : World) {g z : Nat} (i : Nat) (u : Value) (hne : g < z) : (W.setCell ⟨z, i, none⟩ u).heap[g]? = W.heap[g]? := Below.heap_setCell W ⟨z, i, none⟩ u g (by show g ≠ z; omega)
theorem put9 {W w : World} {g : Nat} {t : TypeId} {b0 b1 b2 b3 b4 b5 b6 b7 b8 : Value} (h : W.heap[g]? = some (.cells #[b0, b1, b2, b3, b4, b5, b6, b7, b8] t (0, 0))) (hb : Below w.heap.size w W) (hg : w.heap.size ≤ g) (a0 a1 a2 a3 a4 a5 a6 a7 a8 : Value) :
    (((((((((W.setCell ⟨g, 0, none⟩ (a0)).setCell ⟨g, 1, none⟩ (a1)).setCell ⟨g, 2, none⟩ (a2)).setCell ⟨g, 3, none⟩ (a3)).setCell ⟨g, 4, none⟩ (a4)).setCell ⟨g, 5, none⟩ (a5)).setCell ⟨g, 6, none⟩ (a6)).setCell ⟨g, 7, none⟩ (a7)).setCell ⟨g, 8, none⟩ (a8)).heap[g]? = some (.cells #[a0, a1, a2, a3, a4, a5, a6, a7, a8] t (0, 0)) ∧ Below w.heap.size w (((((((((W.setCell ⟨g, 0, none⟩ (a0)).setCell ⟨g, 1, none⟩ (a1)).setCell ⟨g, 2, none⟩ (a2)).setCell ⟨g, 3, none⟩ (a3)).setCell ⟨g, 4, none⟩ (a4)).setCell ⟨g, 5, none⟩ (a5)).setCell ⟨g, 6, none⟩ (a6)).setCell ⟨g, 7, none⟩ (a7)).setCell ⟨g, 8, none⟩ (a8)) := by
  constructor
  · refine blk_put (cs := #[a0, a1, a2, a3, a4, a5, a6, a7, b8]) ?_ 8 _ rfl
    refine blk_put (cs := #[a0, a1, a2, a3, a4, a5, a6, b7, b8]) ?_ 7 _ rfl
    refine blk_put (cs := #[a0, a1, a2, a3, a4, a5, b6, b7, b8]) ?_ 6 _ rfl
    refine blk_put (cs := #[a0, a1, a2, a3, a4, b5, b6, b7, b8]) ?_ 5 _ rfl
    refine blk_put (cs := #[a0, a1, a2, a3, b4, b5, b6, b7, b8]) ?_ 4 _ rfl
    refine blk_put (cs := #[a0, a1, a2, b3, b4, b5, b6, b7, b8]) ?_ 3 _ rfl
    refine blk_put (cs := #[a0, a1, b2, b3, b4, b5, b6, b7, b8]) ?_ 2 _ rfl
    refine blk_put (cs := #[a0, b1, b2, b3, b4, b5, b6, b7, b8]) ?_ 1 _ rfl
    refine blk_put (cs := #[b0, b1, b2, b3, b4, b5, b6, b7, b8]) ?_ 0 _ rfl
    exact h
  · refine below_set ?_ hg
    refine below_set ?_ hg
    refine below_set ?_ hg
    refine below_set ?_ hg
    refine below_set ?_ hg
    refine below_set ?_ hg
    refine below_set ?_ hg
    refine below_set ?_ hg
    refine below_set ?_ hg
    exact hb
theorem put9_far {W : World} {g z : Nat} {o : Obj} (h : W.heap[g]? = some o) (hne : g < z) (a0 a1 a2 a3 a4 a5 a6 a7 a8 : Value) : (((((((((W.setCell ⟨z, 0, none⟩ (a0)).setCell ⟨z, 1, none⟩ (a1)).setCell ⟨z, 2, none⟩ (a2)).setCell ⟨z, 3, none⟩ (a3)).setCell ⟨z, 4, none⟩ (a4)).setCell ⟨z, 5, none⟩ (a5)).setCell ⟨z, 6, none⟩ (a6)).setCell ⟨z, 7, none⟩ (a7)).setCell ⟨z, 8, none⟩ (a8)).heap[g]? = some o := by
  refine (heap_far _ _ _ hne).trans ?_
  refine (heap_far _ _ _ hne).trans ?_
  refine (heap_far _ _ _ hne).trans ?_
  refine (heap_far _ _ _ hne).trans ?_
  refine (heap_far _ _ _ hne).trans ?_
  refine (heap_far _ _ _ hne).trans ?_
  refine (heap_far _ _ _ hne).trans ?_
  refine (heap_far _ _ _ hne).trans ?_
  refine (heap_far _ _ _ hne).trans ?_
  exact h
theorem put3 {W w : World} {g : Nat} {t : TypeId} {b0 b1 b2 : Value} (h : W.heap[g]? = some (.cells #[b0, b1, b2] t (0, 0))) (hb : Below w.heap.size w W) (hg : w.heap.size ≤ g) (a0 a1 a2 : Value) :
    (((W.setCell ⟨g, 0, none⟩ (a0)).setCell ⟨g, 1, none⟩ (a1)).setCell ⟨g, 2, none⟩ (a2)).heap[g]? = some (.cells #[a0, a1, a2] t (0, 0)) ∧ Below w.heap.size w (((W.setCell ⟨g, 0, none⟩ (a0)).setCell ⟨g, 1, none⟩ (a1)).setCell ⟨g, 2, none⟩ (a2)) := by
  constructor
  · refine blk_put (cs := #[a0, a1, b2]) ?_ 2 _ rfl
    refine blk_put (cs := #[a0, b1, b2]) ?_ 1 _ rfl
    refine blk_put (cs := #[b0, b1, b2]) ?_ 0 _ rfl
    exact h
  · refine below_set ?_ hg
    refine below_set ?_ hg
    refine below_set ?_ hg
    exact hb
theorem put3_far {W : World} {g z : Nat} {o : Obj} (h : W.heap[g]? = some o) (hne : g < z) (a0 a1 a2 : Value) : (((W.setCell ⟨z, 0, none⟩ (a0)).setCell ⟨z, 1, none⟩ (a1)).setCell ⟨z, 2, none⟩ (a2)).heap[g]? = some o := by
  refine (heap_far _ _ _ hne).trans ?_
  refine (heap_far _ _ _ hne).trans ?_
  refine (heap_far _ _ _ hne).trans ?_
  exact h
theorem shorts.at (w : World) : Calls Tryd.prog 28 #[] w fun e w' => ∃ r, e = .returned (.map (some r)) ∧ w'.heap[r]? = some (.map shortsE 6) ∧ Below w.heap.size w w' := by
  refine (shorts.calls w).mono ?_
  rintro e w' ⟨rfl, rfl⟩
  exact ⟨_, rfl, (MapKept.heap_alloc w _).1, below_alloc (Below.refl _ _) _⟩
theorem longs.at (w : World) : Calls Tryd.prog 30 #[] w fun e w' => ∃ r, e = .returned (.map (some r)) ∧ w'.heap[r]? = some (.map longsE 3) ∧ Below w.heap.size w w' := by
  refine (longs.calls w).mono ?_
  rintro e w' ⟨rfl, rfl⟩
  exact ⟨_, rfl, (MapKept.heap_alloc w _).1, below_alloc (Below.refl _ _) _⟩
set_option maxHeartbeats 60000000 in
set_option maxRecDepth 1000000 in
theorem one_short (s : ByteArray) (hs : 0 < s.size) (c k : Int) (i : Nat) (hc : bt s 0 = c) (hf : Instr.findNow (.int .u8) (.int .u8 c) shortsE.toList 0 = some (some (i, .int .i64 k))) (w : World) :
    Calls Tryd.prog 21 #[.string s] w fun e w' => e = .returned (.tuple #[.agg #[.int .i64 k, .int .i64 0, .int .u64 0, .int .u64 0, .int .u64 0, .int .u64 0, .string (⟨#[]⟩ : ByteArray), .int .i64 0, .int .i64 0], .int .i64 (1), .int .i64 (0)]) ∧ Below w.heap.size w w' := by
  have hx : ∀ h : 0 < s.size, ((s[0]'h).toNat : Int) = c := fun h => (bt_at s 0 h).trans hc
  have h5 : (0 : Int) < (s.size : Int) := by omega
  have HB := Aside0.mk (Below.refl w.heap.size w)
  go_enter Tryd.func21, Tryd.ntmps21
  go_wp2_with ((with_reducible refine gate_dst (N := 2) rfl ?_); refine box_event ?hg (N := 2) ?hd (cs := #[.int .i64 0, .int .i64 0, .int .u64 0, .int .u64 0, .int .u64 0, .int .u64 0, .string (⟨#[]⟩ : ByteArray), .int .i64 0, .int .i64 0]) (t := 35) ?hr ?_; (case hd => rfl); (case hg => rfl); (case hr => first | (go_simp; done) | (go_simp; rfl)); intro g hg w3 hbox hb; have HB1 := Aside0.mk (below_step (by repeat (first | (with_reducible first | exact HB.out | apply below_alloc | apply pw_below_drewN | apply below_drew1 | apply below_drew) | exact HB.out)) hb); have BK1 := Aside0.mk hbox; have GE1 := Aside0.mk ((by rw [hg]; exact (below_size (by repeat (first | (with_reducible first | exact HB.out | apply below_alloc | apply pw_below_drewN | apply below_drew1 | apply below_drew) | exact HB.out)))) : w.heap.size ≤ g); clear hb hbox hg; clear HB)
  first | (go_region_with (go_at_call 28; refine (shorts.at _).mono ?_; rintro e W1 ⟨r, rfl, hm, hb⟩; have BK2 := Aside0.mk (blk_below (g := g) (o := .cells #[.int .i64 0, .int .i64 0, .int .u64 0, .int .u64 0, .int .u64 0, .int .u64 0, .string (⟨#[]⟩ : ByteArray), .int .i64 0, .int .i64 0] 35 (0, 0)) (by (with_reducible repeat (first | refine blk_drewN ?_ _ | refine blk_drew ?_ | refine blk_alloc ?_ _)); exact BK1.out) hb); have HB2 := Aside0.mk (below_step (by repeat (first | (with_reducible first | exact HB1.out | apply below_alloc | apply pw_below_drewN | apply below_drew1 | apply below_drew) | exact HB1.out)) hb); have lk := run_look Tryd.underlying57 Tryd.underlying5 hm c i _ hf; (try clear BK1); (try clear HB1); clear hm hb; have hc1_0 := (blk_cell BK2.out 0).trans rfl; have hf1_0 := blk_frozen BK2.out 0; have hc1_1 := (blk_cell BK2.out 1).trans rfl; have hf1_1 := blk_frozen BK2.out 1; have hc1_2 := (blk_cell BK2.out 2).trans rfl; have hf1_2 := blk_frozen BK2.out 2; have hc1_3 := (blk_cell BK2.out 3).trans rfl; have hf1_3 := blk_frozen BK2.out 3; have hc1_4 := (blk_cell BK2.out 4).trans rfl; have hf1_4 := blk_frozen BK2.out 4; have hc1_5 := (blk_cell BK2.out 5).trans rfl; have hf1_5 := blk_frozen BK2.out 5; have hc1_6 := (blk_cell BK2.out 6).trans rfl; have hf1_6 := blk_frozen BK2.out 6; have hc1_7 := (blk_cell BK2.out 7).trans rfl; have hf1_7 := blk_frozen BK2.out 7; have hc1_8 := (blk_cell BK2.out 8).trans rfl; have hf1_8 := blk_frozen BK2.out 8)) | fail "region 1"
  all_goals go_wp2_with ((with_reducible refine gate_store (t := 35) (p := 2) rfl ?_); refine store_event (t := 35) (p := 2) (v := ?vo) (w1 := (((((((((W1.setCell ⟨g, 0, none⟩ (.int .i64 k)).setCell ⟨g, 1, none⟩ (.int .i64 0)).setCell ⟨g, 2, none⟩ (.int .u64 0)).setCell ⟨g, 3, none⟩ (.int .u64 0)).setCell ⟨g, 4, none⟩ (.int .u64 0)).setCell ⟨g, 5, none⟩ (.int .u64 0)).setCell ⟨g, 6, none⟩ (.string (⟨#[]⟩ : ByteArray))).setCell ⟨g, 7, none⟩ (.int .i64 0)).setCell ⟨g, 8, none⟩ (.int .i64 0))) ?hg ?ho ?hn ?hr ?_; (case ho => rfl); (case hg => rfl); (case hn => rfl); (case hr => first | (go_simp; done) | (go_simp; rfl)); intro w5 hw; have hpp := put9 BK2.out HB2.out GE1.out (.int .i64 k) (.int .i64 0) (.int .u64 0) (.int .u64 0) (.int .u64 0) (.int .u64 0) (.string (⟨#[]⟩ : ByteArray)) (.int .i64 0) (.int .i64 0); rw [← hw] at hpp; have BK3 := Aside0.mk hpp.1; have HB3 := Aside0.mk hpp.2; clear hw hpp)
  all_goals refine bodyPost_ret (results_ctt rfl _ _ g 35 #[.int .i64 k, .int .i64 0, .int .u64 0, .int .u64 0, .int .u64 0, .int .u64 0, .string (⟨#[]⟩ : ByteArray), .int .i64 0, .int .i64 0] (0, 0) _ rfl (by (with_reducible repeat (first | refine blk_drewN ?_ _ | refine blk_drew ?_ | refine blk_alloc ?_ _)); exact BK3.out) Tryd.underlying35 rfl (by kernel_rfl)) rfl ?_
  all_goals exact ⟨rfl, (by repeat (first | (with_reducible first | exact HB3.out | apply below_alloc | apply pw_below_drewN | apply below_drew1 | apply below_drew) | exact HB3.out))⟩
theorem zero3 (w : World) : (zeroValue 3).run Tryd.prog w = .ok (.int .i64 0) w := by kernel_rfl
theorem zero61 (w : World) : (zeroValue 61).run Tryd.prog w = .ok (.agg #[.int .u8 0, .int .i64 0, .nilFunc]) w := by kernel_rfl
def ViaQ (A : Nat → Nat → Act) (F : Nat → Nat → World → Prop) (e : Exit) (a : Act) (w : World) : Prop := match e with | .normal => ∃ r g, a = A r g ∧ F r g w | _ => False
theorem ViaQ.mk {A : Nat → Nat → Act} {F : Nat → Nat → World → Prop} {a : Act} {w : World} (r g : Nat) (h : a = A r g) (hF : F r g w) : ViaQ A F .normal a w := ⟨r, g, h, hF⟩
theorem region_via {P : Program} {c : Code} {Q : Exit → Act → World → Prop} {a : Act} {w : World} (A : Nat → Nat → Act) (F : Nat → Nat → World → Prop)
    (hr : c.wp P (ViaQ A F) a w) (ht : ∀ r g w', F r g w' → Q .normal (A r g) w') : c.wp P Q a w := by
  refine Code.wp_mono (fun e a' w' h => ?_) hr
  cases e with
  | normal =>
    obtain ⟨r, g, rfl, h3⟩ := h
    exact ht r g w' h3
  | _ => exact h.elim
end Go.Proofs.YtepnbnpgifpfbaaDoor.G
namespace Go.Proofs.YtepnbnpgifpfbaaDoor.G
open Go.RowKit Go.Proofs.YtepnbnpgifpfbaaDoorW.PrintWords
set_option maxHeartbeats 60000000 in
set_option maxRecDepth 1000000 in
theorem one_dot (s : ByteArray) (hs : 0 < s.size) (c : Int) (hc : bt s 0 = c) (h46 : c = 46) (hf1 : Instr.findNow (.int .u8) (.int .u8 c) shortsE.toList 0 = some none) (x1 x2 x3 x4 : Int) (hn : class_Not.f 0 0 0 0 = some (x1, x2, x3, x4)) (w : World) :
    Calls Tryd.prog 21 #[.string s] w fun e w' => e = .returned (.tuple #[.agg #[.int .i64 1, .int .i64 0, .int .u64 x1, .int .u64 x2, .int .u64 x3, .int .u64 x4, .string (⟨#[]⟩ : ByteArray), .int .i64 0, .int .i64 0], .int .i64 (1), .int .i64 (0)]) ∧ Below w.heap.size w w' := by
  subst h46
  have hx : ∀ h : 0 < s.size, ((s[0]'h).toNat : Int) = 46 := fun h => (bt_at s 0 h).trans hc
  have h5 : (0 : Int) < (s.size : Int) := by omega
  have HB := Aside0.mk (Below.refl w.heap.size w)
  go_enter Tryd.func21, Tryd.ntmps21
  go_wp2_with ((with_reducible refine gate_dst (N := 2) rfl ?_); refine box_event ?hg (N := 2) ?hd (cs := #[.int .i64 0, .int .i64 0, .int .u64 0, .int .u64 0, .int .u64 0, .int .u64 0, .string (⟨#[]⟩ : ByteArray), .int .i64 0, .int .i64 0]) (t := 35) ?hr ?_; (case hd => rfl); (case hg => rfl); (case hr => first | (go_simp; done) | (go_simp; rfl)); intro g hg w3 hbox hb; have HB1 := Aside0.mk (below_step (by repeat (first | (with_reducible first | exact HB.out | apply below_alloc | apply pw_below_drewN | apply below_drew1 | apply below_drew) | exact HB.out)) hb); have BK1 := Aside0.mk hbox; have GE1 := Aside0.mk ((by rw [hg]; exact (below_size (by repeat (first | (with_reducible first | exact HB.out | apply below_alloc | apply pw_below_drewN | apply below_drew1 | apply below_drew) | exact HB.out)))) : w.heap.size ≤ g); clear hb hbox hg; clear HB)
  apply region_via (F := fun _ _ w' => w'.heap[g]? = some (.cells #[.int .i64 0, .int .i64 0, .int .u64 0, .int .u64 0, .int .u64 0, .int .u64 0, .string (⟨#[]⟩ : ByteArray), .int .i64 0, .int .i64 0] 35 (0, 0)) ∧ Below w.heap.size w w')
  case hr =>
    first | (go_region_with (go_at_call 28; refine (shorts.at _).mono ?_; rintro e W1 ⟨r, rfl, hm, hb⟩; have BK2 := Aside0.mk (blk_below (g := g) (o := .cells #[.int .i64 0, .int .i64 0, .int .u64 0, .int .u64 0, .int .u64 0, .int .u64 0, .string (⟨#[]⟩ : ByteArray), .int .i64 0, .int .i64 0] 35 (0, 0)) (by (with_reducible repeat (first | refine blk_drewN ?_ _ | refine blk_drew ?_ | refine blk_alloc ?_ _)); exact BK1.out) hb); have HB2 := Aside0.mk (below_step (by repeat (first | (with_reducible first | exact HB1.out | apply below_alloc | apply pw_below_drewN | apply below_drew1 | apply below_drew) | exact HB1.out)) hb); have lk := run_look_none Tryd.underlying57 Tryd.underlying5 hm 46 (.int .i64 0) (zero3 _) hf1; (try clear BK1); (try clear HB1); clear hm hb; have hc1_0 := (blk_cell BK2.out 0).trans rfl; have hf1_0 := blk_frozen BK2.out 0; have hc1_1 := (blk_cell BK2.out 1).trans rfl; have hf1_1 := blk_frozen BK2.out 1; have hc1_2 := (blk_cell BK2.out 2).trans rfl; have hf1_2 := blk_frozen BK2.out 2; have hc1_3 := (blk_cell BK2.out 3).trans rfl; have hf1_3 := blk_frozen BK2.out 3; have hc1_4 := (blk_cell BK2.out 4).trans rfl; have hf1_4 := blk_frozen BK2.out 4; have hc1_5 := (blk_cell BK2.out 5).trans rfl; have hf1_5 := blk_frozen BK2.out 5; have hc1_6 := (blk_cell BK2.out 6).trans rfl; have hf1_6 := blk_frozen BK2.out 6; have hc1_7 := (blk_cell BK2.out 7).trans rfl; have hf1_7 := blk_frozen BK2.out 7; have hc1_8 := (blk_cell BK2.out 8).trans rfl; have hf1_8 := blk_frozen BK2.out 8)) | fail "region 1"
    all_goals obtain ⟨z, hz⟩ : ∃ z : Nat, z = 0 := ⟨0, rfl⟩
    all_goals exact ViaQ.mk r z rfl ⟨(by (with_reducible repeat (first | refine blk_drewN ?_ _ | refine blk_drew ?_ | refine blk_alloc ?_ _)); exact BK2.out), (by repeat (first | (with_reducible first | exact HB2.out | apply below_alloc | apply pw_below_drewN | apply below_drew1 | apply below_drew) | exact HB2.out))⟩
  case ht =>
  rintro r1 - W2 ⟨BK, HB⟩
  have BK3 := Aside0.mk BK
  have HB3 := Aside0.mk HB
  have hs2 : w.heap.size ≤ W2.heap.size := below_size HB
  have hg2 : g < W2.heap.size := blk_lt BK
  clear BK HB
  go_wp2_with (first | (go_at_call 29; refine (class_Not.calls 0 0 0 0 x1 x2 x3 x4 _ hn).mono ?_; rintro e W3 ⟨rfl, hb⟩; have BK4 := Aside0.mk (blk_below (g := g) (o := .cells #[.int .i64 0, .int .i64 0, .int .u64 0, .int .u64 0, .int .u64 0, .int .u64 0, .string (⟨#[]⟩ : ByteArray), .int .i64 0, .int .i64 0] 35 (0, 0)) (by (with_reducible repeat (first | refine blk_drewN ?_ _ | refine blk_drew ?_ | refine blk_alloc ?_ _)); exact BK3.out) hb); have HB4 := Aside0.mk (below_step (by repeat (first | (with_reducible first | exact HB3.out | apply below_alloc | apply pw_below_drewN | apply below_drew1 | apply below_drew) | exact HB3.out)) hb); (try clear BK3); (try clear HB3); clear hb; have hc2_0 := (blk_cell BK4.out 0).trans rfl; have hf2_0 := blk_frozen BK4.out 0; have hc2_1 := (blk_cell BK4.out 1).trans rfl; have hf2_1 := blk_frozen BK4.out 1; have hc2_2 := (blk_cell BK4.out 2).trans rfl; have hf2_2 := blk_frozen BK4.out 2; have hc2_3 := (blk_cell BK4.out 3).trans rfl; have hf2_3 := blk_frozen BK4.out 3; have hc2_4 := (blk_cell BK4.out 4).trans rfl; have hf2_4 := blk_frozen BK4.out 4; have hc2_5 := (blk_cell BK4.out 5).trans rfl; have hf2_5 := blk_frozen BK4.out 5; have hc2_6 := (blk_cell BK4.out 6).trans rfl; have hf2_6 := blk_frozen BK4.out 6; have hc2_7 := (blk_cell BK4.out 7).trans rfl; have hf2_7 := blk_frozen BK4.out 7; have hc2_8 := (blk_cell BK4.out 8).trans rfl; have hf2_8 := blk_frozen BK4.out 8) | ((with_reducible refine gate_store (t := 35) (p := 2) rfl ?_); refine store_event (t := 35) (p := 2) (v := ?vo) (w1 := (((((((((W3.setCell ⟨g, 0, none⟩ (.int .i64 1)).setCell ⟨g, 1, none⟩ (.int .i64 0)).setCell ⟨g, 2, none⟩ (.int .u64 x1)).setCell ⟨g, 3, none⟩ (.int .u64 x2)).setCell ⟨g, 4, none⟩ (.int .u64 x3)).setCell ⟨g, 5, none⟩ (.int .u64 x4)).setCell ⟨g, 6, none⟩ (.string (⟨#[]⟩ : ByteArray))).setCell ⟨g, 7, none⟩ (.int .i64 0)).setCell ⟨g, 8, none⟩ (.int .i64 0))) ?hg ?ho ?hn ?hr ?_; (case ho => rfl); (case hg => rfl); (case hn => rfl); (case hr => first | (go_simp; done) | (go_simp; rfl)); intro w5 hw; have hpp := put9 BK4.out HB4.out GE1.out (.int .i64 1) (.int .i64 0) (.int .u64 x1) (.int .u64 x2) (.int .u64 x3) (.int .u64 x4) (.string (⟨#[]⟩ : ByteArray)) (.int .i64 0) (.int .i64 0); rw [← hw] at hpp; have BK5 := Aside0.mk hpp.1; have HB5 := Aside0.mk hpp.2; clear hw hpp))
  all_goals refine bodyPost_ret (results_ctt rfl _ _ g 35 #[.int .i64 1, .int .i64 0, .int .u64 x1, .int .u64 x2, .int .u64 x3, .int .u64 x4, .string (⟨#[]⟩ : ByteArray), .int .i64 0, .int .i64 0] (0, 0) _ rfl (by (with_reducible repeat (first | refine blk_drewN ?_ _ | refine blk_drew ?_ | refine blk_alloc ?_ _)); exact BK5.out) Tryd.underlying35 rfl (by kernel_rfl)) rfl ?_
  all_goals exact ⟨rfl, (by repeat (first | (with_reducible first | exact HB5.out | apply below_alloc | apply pw_below_drewN | apply below_drew1 | apply below_drew) | exact HB5.out))⟩
end Go.Proofs.YtepnbnpgifpfbaaDoor.G
namespace Go.Proofs.YtepnbnpgifpfbaaDoor.G
open Go.RowKit Go.Proofs.YtepnbnpgifpfbaaDoorW.PrintWords Go.Proofs.YtepnbnpgifpfbaaDoorW.PrintLast Go.Proofs.YtepnbnpgifpfbaaDoorW.PrintMore
attribute [local go_sem] max2_int min2_int max_two min_two max_three min_three max_four min_four
set_option linter.unusedVariables false
set_option linter.unusedSimpArgs false
def stringslite_HasPrefix.f (a0 : ByteArray) (a1 : ByteArray) : Option (Bool) := if (a0.size : Int) ≥ (a1.size : Int) then (if 0 ≤ (a1.size : Int) then (if (a1.size : Int) ≤ (a0.size : Int) then (some ((a0.extract 0 ((a1.size : Int) : Int).toNat).toList == a1.toList)) else (none)) else (none)) else (some false)
set_option maxHeartbeats 8000000 in
set_option maxRecDepth 100000 in
theorem stringslite_HasPrefix.calls (a0 : ByteArray) (a1 : ByteArray) (r : Bool) (w : World) (h : stringslite_HasPrefix.f a0 a1 = some r) :
    Calls Tryd.prog 58 #[.string a0, .string a1] w fun e w' => e = .returned (.bool r) ∧ Drawn0 w w' := by
  have H : (if (a0.size : Int) ≥ (a1.size : Int) then (if 0 ≤ (a1.size : Int) then (if (a1.size : Int) ≤ (a0.size : Int) then (some ((a0.extract 0 ((a1.size : Int) : Int).toNat).toList == a1.toList)) else (none)) else (none)) else (some false)) = some r := h
  clear h
  by_cases c3 : (a0.size : Int) ≥ (a1.size : Int)
  case neg =>
    rw [if_neg c3] at H
    have c3b0 : decide ((a1.size : Int) ≤ (a0.size : Int)) = false := decide_eq_false c3
    have c3b1 : decide (a1.size ≤ a0.size) = false := decide_eq_false (fun h => c3 (Int.ofNat_le.mpr h))
    clear c3
    obtain rfl := Option.some.inj H
    go_enter Tryd.func58, Tryd.ntmps58
    go_wp2
    go_ret
    exact ⟨by first | rfl | (simp; done) | (simp [*]; done) | (simp [*, IntKind.wrap_i64, wrap64]; done), by repeat (first | exact Drawn0.refl _ | apply Drawn0.step)⟩
  rw [if_pos c3] at H
  have c3b0 : decide ((a1.size : Int) ≤ (a0.size : Int)) = true := decide_eq_true c3
  have c3b1 : decide (a1.size ≤ a0.size) = true := decide_eq_true (Int.ofNat_le.mp c3)
  clear c3
  by_cases c4 : 0 ≤ (a1.size : Int)
  case neg => rw [if_neg c4] at H; exact absurd H (by simp)
  rw [if_pos c4] at H
  have c4b0 := eq_true c4
  have c4b1 : decide (0 ≤ (a1.size : Int)) = true := decide_eq_true c4
  clear c4
  by_cases c5 : (a1.size : Int) ≤ (a0.size : Int)
  case neg => rw [if_neg c5] at H; exact absurd H (by simp)
  rw [if_pos c5] at H
  have c5b0 := eq_true c5
  have c5b1 : decide ((a1.size : Int) ≤ (a0.size : Int)) = true := decide_eq_true c5
  clear c5
  obtain rfl := Option.some.inj H
  go_enter Tryd.func58, Tryd.ntmps58
  go_wp2
  go_ret
  exact ⟨by first | rfl | (simp; done) | (simp [*]; done) | (simp [*, IntKind.wrap_i64, wrap64]; done), by repeat (first | exact Drawn0.refl _ | apply Drawn0.step)⟩
end Go.Proofs.YtepnbnpgifpfbaaDoor.G
namespace Go.Proofs.YtepnbnpgifpfbaaDoor.G
open Go.RowKit Go.Proofs.YtepnbnpgifpfbaaDoorW.PrintWords Go.Proofs.YtepnbnpgifpfbaaDoorW.PrintLast Go.Proofs.YtepnbnpgifpfbaaDoorW.PrintMore
attribute [local go_sem] max2_int min2_int max_two min_two max_three min_three max_four min_four
set_option linter.unusedVariables false
set_option linter.unusedSimpArgs false
def stringslite_CutPrefix.f (a0 : ByteArray) (a1 : ByteArray) : Option (ByteArray × Bool) := (stringslite_HasPrefix.f a0 a1).bind fun t101 => (if t101 = true then (if 0 ≤ (a1.size : Int) then (if (a1.size : Int) ≤ (a0.size : Int) then (some (a0.extract ((a1.size : Int) : Int).toNat a0.size, true)) else (none)) else (none)) else (some (a0, false)))
set_option maxHeartbeats 8000000 in
set_option maxRecDepth 100000 in
theorem stringslite_CutPrefix.calls (a0 : ByteArray) (a1 : ByteArray) (r1 : ByteArray) (r2 : Bool) (w : World) (h : stringslite_CutPrefix.f a0 a1 = some (r1, r2)) :
    Calls Tryd.prog 50 #[.string a0, .string a1] w fun e w' => e = .returned (.tuple #[.string r1, .bool r2]) ∧ Drawn0 w w' := by
  have H : ((stringslite_HasPrefix.f a0 a1).bind fun t101 => (if t101 = true then (if 0 ≤ (a1.size : Int) then (if (a1.size : Int) ≤ (a0.size : Int) then (some (a0.extract ((a1.size : Int) : Int).toNat a0.size, true)) else (none)) else (none)) else (some (a0, false)))) = some (r1, r2) := h
  clear h
  replace H := Option.bind_eq_some_iff.mp H
  obtain ⟨t101, A30, H⟩ := H
  replace H : (if t101 = true then (if 0 ≤ (a1.size : Int) then (if (a1.size : Int) ≤ (a0.size : Int) then (some (a0.extract ((a1.size : Int) : Int).toNat a0.size, true)) else (none)) else (none)) else (some (a0, false))) = some (r1, r2) := H
  have A3 := Aside0.mk A30
  clear A30
  by_cases c4 : t101 = true
  case neg =>
    replace c4 := Bool.eq_false_iff.mpr c4
    subst c4
    have H1 : (some (a0, false)) = some (r1, r2) := by rw [if_neg (show ¬ (false = true) by decide)] at H; exact H
    clear H
    have H := H1
    clear H1
    simp only [Option.some.injEq, Prod.mk.injEq] at H
    obtain ⟨rfl, rfl⟩ := H
    go_enter Tryd.func50, Tryd.ntmps50
    go_wp2_with (first | ((with_reducible refine gate_callee (f := 58) rfl ?_); refine goesL_ (some 8) rfl rfl Tryd.func58 (by kernel_rfl) rfl #[.string a0, .string a1] rfl (by (try simp only [List.map_toArray, List.map_cons, List.map_nil]); first | done | rfl | (simp only [List.length_drop, List.length_take]; rfl)) ?_; (with_reducible refine (stringslite_HasPrefix.calls a0 a1 false _ A3.out).mono ?_); rintro e w' ⟨rfl, ⟨nd, rfl⟩⟩; refine ⟨_, rfl, ?_⟩))
    go_ret2
    exact ⟨by first | rfl | (simp; done) | (simp [*]; done) | (simp [*, IntKind.wrap_i64, wrap64]; done), by repeat (first | exact Drawn0.refl _ | apply Drawn0.step)⟩
  subst c4
  have H1 : (if 0 ≤ (a1.size : Int) then (if (a1.size : Int) ≤ (a0.size : Int) then (some (a0.extract ((a1.size : Int) : Int).toNat a0.size, true)) else (none)) else (none)) = some (r1, r2) := by rw [if_pos rfl] at H; exact H
  clear H
  have H := H1
  clear H1
  by_cases c5 : 0 ≤ (a1.size : Int)
  case neg => rw [if_neg c5] at H; exact absurd H (by simp)
  rw [if_pos c5] at H
  have c5b0 := eq_true c5
  have c5b1 : decide (0 ≤ (a1.size : Int)) = true := decide_eq_true c5
  clear c5
  by_cases c6 : (a1.size : Int) ≤ (a0.size : Int)
  case neg => rw [if_neg c6] at H; exact absurd H (by simp)
  rw [if_pos c6] at H
  have c6b0 := eq_true c6
  have c6b1 : decide ((a1.size : Int) ≤ (a0.size : Int)) = true := decide_eq_true c6
  clear c6
  simp only [Option.some.injEq, Prod.mk.injEq] at H
  obtain ⟨rfl, rfl⟩ := H
  go_enter Tryd.func50, Tryd.ntmps50
  go_wp2_with (first | ((with_reducible refine gate_callee (f := 58) rfl ?_); refine goesL_ (some 8) rfl rfl Tryd.func58 (by kernel_rfl) rfl #[.string a0, .string a1] rfl (by (try simp only [List.map_toArray, List.map_cons, List.map_nil]); first | done | rfl | (simp only [List.length_drop, List.length_take]; rfl)) ?_; (with_reducible refine (stringslite_HasPrefix.calls a0 a1 true _ A3.out).mono ?_); rintro e w' ⟨rfl, ⟨nd, rfl⟩⟩; refine ⟨_, rfl, ?_⟩))
  go_ret2
  exact ⟨by first | rfl | (simp; done) | (simp [*]; done) | (simp [*, IntKind.wrap_i64, wrap64]; done), by repeat (first | exact Drawn0.refl _ | apply Drawn0.step)⟩
end Go.Proofs.YtepnbnpgifpfbaaDoor.G
namespace Go.Proofs.YtepnbnpgifpfbaaDoor.G
open Go.RowKit Go.Proofs.YtepnbnpgifpfbaaDoorW.PrintWords Go.Proofs.YtepnbnpgifpfbaaDoorW.PrintLast Go.Proofs.YtepnbnpgifpfbaaDoorW.PrintMore
attribute [local go_sem] max2_int min2_int max_two min_two max_three min_three max_four min_four
set_option linter.unusedVariables false
set_option linter.unusedSimpArgs false
def strings_CutPrefix.f (a0 : ByteArray) (a1 : ByteArray) : Option (ByteArray × Bool) := (stringslite_CutPrefix.f a0 a1).bind fun bt102 => (some (bt102.1, bt102.2))
set_option maxHeartbeats 8000000 in
set_option maxRecDepth 100000 in
theorem strings_CutPrefix.calls (a0 : ByteArray) (a1 : ByteArray) (r1 : ByteArray) (r2 : Bool) (w : World) (h : strings_CutPrefix.f a0 a1 = some (r1, r2)) :
    Calls Tryd.prog 42 #[.string a0, .string a1] w fun e w' => e = .returned (.tuple #[.string r1, .bool r2]) ∧ Drawn0 w w' := by
  have H : ((stringslite_CutPrefix.f a0 a1).bind fun bt102 => (some (bt102.1, bt102.2))) = some (r1, r2) := h
  clear h
  replace H := Option.bind_eq_some_iff.mp H
  obtain ⟨⟨t102, t103⟩, A30, H⟩ := H
  replace H : (some (t102, t103)) = some (r1, r2) := H
  have A3 := Aside0.mk A30
  clear A30
  simp only [Option.some.injEq, Prod.mk.injEq] at H
  obtain ⟨rfl, rfl⟩ := H
  go_enter Tryd.func42, Tryd.ntmps42
  go_wp2_with (first | ((with_reducible refine gate_callee (f := 50) rfl ?_); refine goesL_ (some 8) rfl rfl Tryd.func50 (by kernel_rfl) rfl #[.string a0, .string a1] rfl (by (try simp only [List.map_toArray, List.map_cons, List.map_nil]); first | done | rfl | (simp only [List.length_drop, List.length_take]; rfl)) ?_; (with_reducible refine (stringslite_CutPrefix.calls a0 a1 t102 t103 _ A3.out).mono ?_); rintro e w' ⟨rfl, ⟨nd, rfl⟩⟩; refine ⟨_, rfl, ?_⟩))
  go_ret2
  exact ⟨by first | rfl | (simp; done) | (simp [*]; done) | (simp [*, IntKind.wrap_i64, wrap64]; done), by repeat (first | exact Drawn0.refl _ | apply Drawn0.step)⟩
end Go.Proofs.YtepnbnpgifpfbaaDoor.G
namespace Go.Proofs.YtepnbnpgifpfbaaDoor.G
open Go.RowKit Go.Proofs.YtepnbnpgifpfbaaDoorW.PrintWords Go.Proofs.YtepnbnpgifpfbaaDoorW.PrintLast Go.Proofs.YtepnbnpgifpfbaaDoorW.PrintMore
attribute [local go_sem] max2_int min2_int max_two min_two max_three min_three max_four min_four
set_option linter.unusedVariables false
set_option linter.unusedSimpArgs false
def lex_hex.f (a0 : ByteArray) : Option (Int × Bool) := if (a0.size : Int) = 2 then (if 0 < (a0.size : Int) then ((strings_IndexByte.f (⟨#[48, 49, 50, 51, 52, 53, 54, 55, 56, 57, 97, 98, 99, 100, 101, 102]⟩ : ByteArray) (bt a0 0)).bind fun t104 => (if 1 < (a0.size : Int) then ((strings_IndexByte.f (⟨#[48, 49, 50, 51, 52, 53, 54, 55, 56, 57, 97, 98, 99, 100, 101, 102]⟩ : ByteArray) (bt a0 1)).bind fun t105 => (if t104 ≥ 0 then (some ((wrap64 ((wrap64 (t104 * 16)) + t105)) % 256, decide (t105 ≥ 0))) else (some ((wrap64 ((wrap64 (t104 * 16)) + t105)) % 256, false)))) else (none))) else (none)) else (some (0, false))
set_option maxHeartbeats 8000000 in
set_option maxRecDepth 100000 in
theorem lex_hex.calls (a0 : ByteArray) (r1 : Int) (r2 : Bool) (w : World) (h : lex_hex.f a0 = some (r1, r2)) :
    Calls Tryd.prog 52 #[.string a0] w fun e w' => e = .returned (.tuple #[.int .u8 r1, .bool r2]) ∧ Drawn0 w w' := by
  have H : (if (a0.size : Int) = 2 then (if 0 < (a0.size : Int) then ((strings_IndexByte.f (⟨#[48, 49, 50, 51, 52, 53, 54, 55, 56, 57, 97, 98, 99, 100, 101, 102]⟩ : ByteArray) (bt a0 0)).bind fun t104 => (if 1 < (a0.size : Int) then ((strings_IndexByte.f (⟨#[48, 49, 50, 51, 52, 53, 54, 55, 56, 57, 97, 98, 99, 100, 101, 102]⟩ : ByteArray) (bt a0 1)).bind fun t105 => (if t104 ≥ 0 then (some ((wrap64 ((wrap64 (t104 * 16)) + t105)) % 256, decide (t105 ≥ 0))) else (some ((wrap64 ((wrap64 (t104 * 16)) + t105)) % 256, false)))) else (none))) else (none)) else (some (0, false))) = some (r1, r2) := h
  clear h
  by_cases c2 : (a0.size : Int) = 2
  case neg =>
    rw [if_neg c2] at H
    have c2b0 : ((a0.size : Int) == 2) = false := beq_eq_false_iff_ne.mpr c2
    have c2b1 : ((a0.size : Int) != 2) = true := bne_iff_ne.mpr c2
    simp only [Option.some.injEq, Prod.mk.injEq] at H
    obtain ⟨rfl, rfl⟩ := H
    go_enter Tryd.func52, Tryd.ntmps52
    go_wp2
    repeat (go_quiet (fail); try go_wp2)
    go_ret2
    exact ⟨by first | rfl | (simp; done) | (simp [*]; done) | (simp [*, IntKind.wrap_i64, wrap64]; done), by repeat (first | exact Drawn0.refl _ | apply Drawn0.step)⟩
  rw [if_pos c2] at H
  have c2b0 : ((a0.size : Int) == 2) = true := beq_iff_eq.mpr c2
  have c2b1 : ((a0.size : Int) != 2) = false := bne_eq_false_iff_eq.mpr c2
  clear c2
  by_cases c3 : 0 < (a0.size : Int)
  case neg => rw [if_neg c3] at H; exact absurd H (by simp)
  rw [if_pos c3] at H
  have c3b0 : decide (0 < (a0.size : Int)) = true := decide_eq_true c3
  have c3b1 : decide (0 < a0.size) = true := decide_eq_true (by omega)
  clear c3
  replace H := Option.bind_eq_some_iff.mp H
  obtain ⟨t104, A50, H⟩ := H
  replace H : (if 1 < (a0.size : Int) then ((strings_IndexByte.f (⟨#[48, 49, 50, 51, 52, 53, 54, 55, 56, 57, 97, 98, 99, 100, 101, 102]⟩ : ByteArray) (bt a0 1)).bind fun t105 => (if t104 ≥ 0 then (some ((wrap64 ((wrap64 (t104 * 16)) + t105)) % 256, decide (t105 ≥ 0))) else (some ((wrap64 ((wrap64 (t104 * 16)) + t105)) % 256, false)))) else (none)) = some (r1, r2) := H
  have A5 := Aside0.mk A50
  clear A50
  by_cases c6 : 1 < (a0.size : Int)
  case neg => rw [if_neg c6] at H; exact absurd H (by simp)
  rw [if_pos c6] at H
  have c6b0 : decide (1 < (a0.size : Int)) = true := decide_eq_true c6
  have c6b1 : decide (1 < a0.size) = true := decide_eq_true (by omega)
  clear c6
  replace H := Option.bind_eq_some_iff.mp H
  obtain ⟨t105, A80, H⟩ := H
  replace H : (if t104 ≥ 0 then (some ((wrap64 ((wrap64 (t104 * 16)) + t105)) % 256, decide (t105 ≥ 0))) else (some ((wrap64 ((wrap64 (t104 * 16)) + t105)) % 256, false))) = some (r1, r2) := H
  have A8 := Aside0.mk A80
  clear A80
  by_cases c9 : t104 ≥ 0
  case pos =>
    rw [if_pos c9] at H
    have c9b0 : decide (0 ≤ t104) = true := decide_eq_true c9
    clear c9
    simp only [Option.some.injEq, Prod.mk.injEq] at H
    obtain ⟨rfl, rfl⟩ := H
    have p4 : 0 ≤ (0 : Int) := (by omega)
    have q4 : 0 < a0.size := (by have : (0 : Int) < (a0.size : Int) := odt; omega)
    have hx4 : ∀ h : 0 < a0.size, ((a0[0]'h).toNat : Int) = bt a0 0 := bt_at a0 0
    clear p4
    have qi4 : (0 < (a0.size : Int)) = True := eq_true (odt)
    replace q4 := eq_true q4
    go_enter Tryd.func52, Tryd.ntmps52
    go_wp2_with (first | (go_at_call 31; (with_reducible refine (strings_IndexByte.calls (⟨#[48, 49, 50, 51, 52, 53, 54, 55, 56, 57, 97, 98, 99, 100, 101, 102]⟩ : ByteArray) (bt a0 0) t104 _ A5.out).mono ?_); rintro e w' ⟨rfl, ⟨nd, rfl⟩⟩; (try first | exact ⟨rfl, _, World.drewN_drewN _ _ _⟩ | exact ⟨rfl, _, Eq.trans (World.drewN_drewN _ _ _) (congrArg (World.drewN _) (Nat.add_assoc _ _ _))⟩); have p7 : 0 ≤ (1 : Int) := (by omega); have q7 : 1 < a0.size := (by have : (1 : Int) < (a0.size : Int) := odt; omega); have hx7 : ∀ h : 1 < a0.size, ((a0[1]'h).toNat : Int) = bt a0 1 := bt_at a0 1; clear p7; have qi7 : (1 < (a0.size : Int)) = True := eq_true (odt); replace q7 := eq_true q7) | (go_at_call 31; (with_reducible refine (strings_IndexByte.calls (⟨#[48, 49, 50, 51, 52, 53, 54, 55, 56, 57, 97, 98, 99, 100, 101, 102]⟩ : ByteArray) (bt a0 1) t105 _ A8.out).mono ?_); rintro e w' ⟨rfl, ⟨nd, rfl⟩⟩; (try first | exact ⟨rfl, _, World.drewN_drewN _ _ _⟩ | exact ⟨rfl, _, Eq.trans (World.drewN_drewN _ _ _) (congrArg (World.drewN _) (Nat.add_assoc _ _ _))⟩)))
    repeat (go_quiet (first | (go_at_call 31; (with_reducible refine (strings_IndexByte.calls (⟨#[48, 49, 50, 51, 52, 53, 54, 55, 56, 57, 97, 98, 99, 100, 101, 102]⟩ : ByteArray) (bt a0 0) t104 _ A5.out).mono ?_); rintro e w' ⟨rfl, ⟨nd, rfl⟩⟩; (try first | exact ⟨rfl, _, World.drewN_drewN _ _ _⟩ | exact ⟨rfl, _, Eq.trans (World.drewN_drewN _ _ _) (congrArg (World.drewN _) (Nat.add_assoc _ _ _))⟩); have p7 : 0 ≤ (1 : Int) := (by omega); have q7 : 1 < a0.size := (by have : (1 : Int) < (a0.size : Int) := odt; omega); have hx7 : ∀ h : 1 < a0.size, ((a0[1]'h).toNat : Int) = bt a0 1 := bt_at a0 1; clear p7; have qi7 : (1 < (a0.size : Int)) = True := eq_true (odt); replace q7 := eq_true q7) | (go_at_call 31; (with_reducible refine (strings_IndexByte.calls (⟨#[48, 49, 50, 51, 52, 53, 54, 55, 56, 57, 97, 98, 99, 100, 101, 102]⟩ : ByteArray) (bt a0 1) t105 _ A8.out).mono ?_); rintro e w' ⟨rfl, ⟨nd, rfl⟩⟩; (try first | exact ⟨rfl, _, World.drewN_drewN _ _ _⟩ | exact ⟨rfl, _, Eq.trans (World.drewN_drewN _ _ _) (congrArg (World.drewN _) (Nat.add_assoc _ _ _))⟩))); try go_wp2_with (first | (go_at_call 31; (with_reducible refine (strings_IndexByte.calls (⟨#[48, 49, 50, 51, 52, 53, 54, 55, 56, 57, 97, 98, 99, 100, 101, 102]⟩ : ByteArray) (bt a0 0) t104 _ A5.out).mono ?_); rintro e w' ⟨rfl, ⟨nd, rfl⟩⟩; (try first | exact ⟨rfl, _, World.drewN_drewN _ _ _⟩ | exact ⟨rfl, _, Eq.trans (World.drewN_drewN _ _ _) (congrArg (World.drewN _) (Nat.add_assoc _ _ _))⟩); have p7 : 0 ≤ (1 : Int) := (by omega); have q7 : 1 < a0.size := (by have : (1 : Int) < (a0.size : Int) := odt; omega); have hx7 : ∀ h : 1 < a0.size, ((a0[1]'h).toNat : Int) = bt a0 1 := bt_at a0 1; clear p7; have qi7 : (1 < (a0.size : Int)) = True := eq_true (odt); replace q7 := eq_true q7) | (go_at_call 31; (with_reducible refine (strings_IndexByte.calls (⟨#[48, 49, 50, 51, 52, 53, 54, 55, 56, 57, 97, 98, 99, 100, 101, 102]⟩ : ByteArray) (bt a0 1) t105 _ A8.out).mono ?_); rintro e w' ⟨rfl, ⟨nd, rfl⟩⟩; (try first | exact ⟨rfl, _, World.drewN_drewN _ _ _⟩ | exact ⟨rfl, _, Eq.trans (World.drewN_drewN _ _ _) (congrArg (World.drewN _) (Nat.add_assoc _ _ _))⟩))))
    go_ret2
    exact ⟨by first | rfl | (simp; done) | (simp [*]; done) | (simp [*, IntKind.wrap_i64, wrap64]; done), by repeat (first | exact Drawn0.refl _ | apply Drawn0.step)⟩
  rw [if_neg c9] at H
  have c9b0 : decide (0 ≤ t104) = false := decide_eq_false c9
  clear c9
  simp only [Option.some.injEq, Prod.mk.injEq] at H
  obtain ⟨rfl, rfl⟩ := H
  have p4 : 0 ≤ (0 : Int) := (by omega)
  have q4 : 0 < a0.size := (by have : (0 : Int) < (a0.size : Int) := odt; omega)
  have hx4 : ∀ h : 0 < a0.size, ((a0[0]'h).toNat : Int) = bt a0 0 := bt_at a0 0
  clear p4
  have qi4 : (0 < (a0.size : Int)) = True := eq_true (odt)
  replace q4 := eq_true q4
  go_enter Tryd.func52, Tryd.ntmps52
  go_wp2_with (first | (go_at_call 31; (with_reducible refine (strings_IndexByte.calls (⟨#[48, 49, 50, 51, 52, 53, 54, 55, 56, 57, 97, 98, 99, 100, 101, 102]⟩ : ByteArray) (bt a0 0) t104 _ A5.out).mono ?_); rintro e w' ⟨rfl, ⟨nd, rfl⟩⟩; (try first | exact ⟨rfl, _, World.drewN_drewN _ _ _⟩ | exact ⟨rfl, _, Eq.trans (World.drewN_drewN _ _ _) (congrArg (World.drewN _) (Nat.add_assoc _ _ _))⟩); have p7 : 0 ≤ (1 : Int) := (by omega); have q7 : 1 < a0.size := (by have : (1 : Int) < (a0.size : Int) := odt; omega); have hx7 : ∀ h : 1 < a0.size, ((a0[1]'h).toNat : Int) = bt a0 1 := bt_at a0 1; clear p7; have qi7 : (1 < (a0.size : Int)) = True := eq_true (odt); replace q7 := eq_true q7) | (go_at_call 31; (with_reducible refine (strings_IndexByte.calls (⟨#[48, 49, 50, 51, 52, 53, 54, 55, 56, 57, 97, 98, 99, 100, 101, 102]⟩ : ByteArray) (bt a0 1) t105 _ A8.out).mono ?_); rintro e w' ⟨rfl, ⟨nd, rfl⟩⟩; (try first | exact ⟨rfl, _, World.drewN_drewN _ _ _⟩ | exact ⟨rfl, _, Eq.trans (World.drewN_drewN _ _ _) (congrArg (World.drewN _) (Nat.add_assoc _ _ _))⟩)))
  repeat (go_quiet (first | (go_at_call 31; (with_reducible refine (strings_IndexByte.calls (⟨#[48, 49, 50, 51, 52, 53, 54, 55, 56, 57, 97, 98, 99, 100, 101, 102]⟩ : ByteArray) (bt a0 0) t104 _ A5.out).mono ?_); rintro e w' ⟨rfl, ⟨nd, rfl⟩⟩; (try first | exact ⟨rfl, _, World.drewN_drewN _ _ _⟩ | exact ⟨rfl, _, Eq.trans (World.drewN_drewN _ _ _) (congrArg (World.drewN _) (Nat.add_assoc _ _ _))⟩); have p7 : 0 ≤ (1 : Int) := (by omega); have q7 : 1 < a0.size := (by have : (1 : Int) < (a0.size : Int) := odt; omega); have hx7 : ∀ h : 1 < a0.size, ((a0[1]'h).toNat : Int) = bt a0 1 := bt_at a0 1; clear p7; have qi7 : (1 < (a0.size : Int)) = True := eq_true (odt); replace q7 := eq_true q7) | (go_at_call 31; (with_reducible refine (strings_IndexByte.calls (⟨#[48, 49, 50, 51, 52, 53, 54, 55, 56, 57, 97, 98, 99, 100, 101, 102]⟩ : ByteArray) (bt a0 1) t105 _ A8.out).mono ?_); rintro e w' ⟨rfl, ⟨nd, rfl⟩⟩; (try first | exact ⟨rfl, _, World.drewN_drewN _ _ _⟩ | exact ⟨rfl, _, Eq.trans (World.drewN_drewN _ _ _) (congrArg (World.drewN _) (Nat.add_assoc _ _ _))⟩))); try go_wp2_with (first | (go_at_call 31; (with_reducible refine (strings_IndexByte.calls (⟨#[48, 49, 50, 51, 52, 53, 54, 55, 56, 57, 97, 98, 99, 100, 101, 102]⟩ : ByteArray) (bt a0 0) t104 _ A5.out).mono ?_); rintro e w' ⟨rfl, ⟨nd, rfl⟩⟩; (try first | exact ⟨rfl, _, World.drewN_drewN _ _ _⟩ | exact ⟨rfl, _, Eq.trans (World.drewN_drewN _ _ _) (congrArg (World.drewN _) (Nat.add_assoc _ _ _))⟩); have p7 : 0 ≤ (1 : Int) := (by omega); have q7 : 1 < a0.size := (by have : (1 : Int) < (a0.size : Int) := odt; omega); have hx7 : ∀ h : 1 < a0.size, ((a0[1]'h).toNat : Int) = bt a0 1 := bt_at a0 1; clear p7; have qi7 : (1 < (a0.size : Int)) = True := eq_true (odt); replace q7 := eq_true q7) | (go_at_call 31; (with_reducible refine (strings_IndexByte.calls (⟨#[48, 49, 50, 51, 52, 53, 54, 55, 56, 57, 97, 98, 99, 100, 101, 102]⟩ : ByteArray) (bt a0 1) t105 _ A8.out).mono ?_); rintro e w' ⟨rfl, ⟨nd, rfl⟩⟩; (try first | exact ⟨rfl, _, World.drewN_drewN _ _ _⟩ | exact ⟨rfl, _, Eq.trans (World.drewN_drewN _ _ _) (congrArg (World.drewN _) (Nat.add_assoc _ _ _))⟩))))
  go_ret2
  exact ⟨by first | rfl | (simp; done) | (simp [*]; done) | (simp [*, IntKind.wrap_i64, wrap64]; done), by repeat (first | exact Drawn0.refl _ | apply Drawn0.step)⟩
end Go.Proofs.YtepnbnpgifpfbaaDoor.G
namespace Go.Proofs.YtepnbnpgifpfbaaDoor.G
open Go.RowKit Go.Proofs.YtepnbnpgifpfbaaDoorW.PrintWords Go.Proofs.YtepnbnpgifpfbaaDoorW.PrintLast Go.Proofs.YtepnbnpgifpfbaaDoorW.PrintMore
attribute [local go_sem] max2_int min2_int max_two min_two max_three min_three max_four min_four
set_option linter.unusedVariables false
set_option linter.unusedSimpArgs false
def class_Of.l0 : Nat → Int → Int → Int → Int → Int → Int → Int → Option (Int × Int × Int × Int)
  | 0, _, _, _, _, _, _, _ => none
  | k + 1, x0, x1, x8, x108000, x108001, x108002, x108003 => if x8 < 256 then (if ((x8) % 256) ≥ x0 then (if ((x8) % 256) ≤ x1 then ((class_Add.f x108000 x108001 x108002 x108003 (([(x8) % 256] : List Int))).bind fun bt111 => (class_Of.l0 k x0 x1 (wrap64 (x8 + 1)) bt111.1 bt111.2.1 bt111.2.2.1 bt111.2.2.2)) else (class_Of.l0 k x0 x1 (wrap64 (x8 + 1)) x108000 x108001 x108002 x108003)) else (class_Of.l0 k x0 x1 (wrap64 (x8 + 1)) x108000 x108001 x108002 x108003)) else (some (x108000, x108001, x108002, x108003))
def class_Of.f (k : Nat) (a0 : Int) (a1 : Int) : Option (Int × Int × Int × Int) := class_Of.l0 k a0 a1 0 0 0 0 0
set_option maxHeartbeats 8000000 in
set_option maxRecDepth 100000 in
theorem class_Of.calls (k : Nat) (a0 : Int) (a1 : Int) (r1 : Int) (r2 : Int) (r3 : Int) (r4 : Int) (w : World) (h : class_Of.f k a0 a1 = some (r1, r2, r3, r4)) :
    Calls Tryd.prog 53 #[.int .u8 a0, .int .u8 a1] w fun e w' => e = .returned (.agg #[.int .u64 r1, .int .u64 r2, .int .u64 r3, .int .u64 r4]) ∧ Below w.heap.size w w' := by
  have hu33 := Tryd.underlying33
  have HB := Aside0.mk (Below.refl w.heap.size w)
  have H : (class_Of.l0 k a0 a1 0 0 0 0 0) = some (r1, r2, r3, r4) := h
  clear h
  have H' := Aside0.mk H
  clear H
  go_enter Tryd.func53, Tryd.ntmps53
  go_wp2_with (first | ((with_reducible refine gate_dst (N := 4) rfl ?_); refine box_event ?hg (N := 4) ?hd (cs := #[.int .u64 0, .int .u64 0, .int .u64 0, .int .u64 0]) (t := 33) ?hr ?_; (case hd => rfl); (case hg => rfl); (case hr => first | (go_simp; done) | (go_simp; rfl)); intro gb106 hg w3 hbox hb; have n0_ := Aside0.mk (below_step (belx HB) hb); have n1_ := Aside0.mk (hbox); have n2_ := Aside0.mk ((by rw [hg]; exact (below_size (belx HB)) : w.heap.size ≤ gb106)); have n3_ := Aside0.mk ((by rw [hg]; exact (below_size (belx HB)) : w.heap.size ≤ gb106)); clear HB; have HB := n0_; have BK106 := n1_; have GW106 := n2_; have GE106 := n3_; clear n0_ n1_ n2_ n3_; clear hb hbox hg) | ((with_reducible refine gate_dst (N := 5) rfl ?_); refine box_event ?hg (N := 5) ?hd (cs := #[.int .u64 0, .int .u64 0, .int .u64 0, .int .u64 0]) (t := 33) ?hr ?_; (case hd => rfl); (case hg => rfl); (case hr => first | (go_simp; done) | (go_simp; rfl)); intro gb107 hg w4 hbox hb; have n0_ := Aside0.mk (blk_below (g := gb106) (o := .cells #[.int .u64 0, .int .u64 0, .int .u64 0, .int .u64 0] 33 (0, 0)) (bkx BK106) hb); have n1_ := Aside0.mk (below_step (belx1 HB GE106) hb); have n2_ := Aside0.mk (hbox); have n3_ := Aside0.mk ((by rw [hg]; exact (below_size (belx1 HB GE106)) : w.heap.size ≤ gb107)); have n4_ := Aside0.mk ((by rw [hg]; exact (below_size (belx1 HB GE106)) : w.heap.size ≤ gb107)); have n5_ := Aside0.mk ((by rw [hg]; exact Nat.ne_of_lt (blk_lt (g := gb106) (o := .cells #[.int .u64 0, .int .u64 0, .int .u64 0, .int .u64 0] 33 (0, 0)) (bkx BK106)) : gb106 ≠ gb107)); have n6_ := Aside0.mk ((by rw [hg]; exact Nat.ne_of_gt (blk_lt (g := gb106) (o := .cells #[.int .u64 0, .int .u64 0, .int .u64 0, .int .u64 0] 33 (0, 0)) (bkx BK106)) : gb107 ≠ gb106)); clear BK106; clear HB; have BK106 := n0_; have HB := n1_; have BK107 := n2_; have GW107 := n3_; have GE107 := n4_; have NB106_107 := n5_; have NB107_106 := n6_; clear n0_ n1_ n2_ n3_ n4_ n5_ n6_; clear hb hbox hg))
  go_simp
  go_loopg [8] k (fun kq v8 w' => ∃ (x8_1 : Int) (x108000_1 : Int) (x108001_1 : Int) (x108002_1 : Int) (x108003_1 : Int), v8 = .int .i64 x8_1 ∧ Aside0 (class_Of.l0 kq a0 a1 x8_1 x108000_1 x108001_1 x108002_1 x108003_1 = some (r1, r2, r3, r4)) ∧ Aside0 (kq ≤ k) ∧ Aside0 (w'.heap[gb106]? = some (.cells #[.int .u64 0, .int .u64 0, .int .u64 0, .int .u64 0] 33 (0, 0))) ∧ Aside0 (w'.heap[gb107]? = some (.cells #[.int .u64 x108000_1, .int .u64 x108001_1, .int .u64 x108002_1, .int .u64 x108003_1] 33 (0, 0))) ∧ Aside0 (Below w.heap.size w w'))
  case atStart => exact ⟨(0), (0), (0), (0), (0), (by first | rfl | (simp; done) | (simp [*]; done) | exact congrArg (Value.int .i64) (by unfold wrap64; omega)), (by first | exact H' | (subst_vars; exact H')), ⟨Nat.le_refl _⟩, ⟨bkx BK106⟩, ⟨bkx BK107⟩, ⟨belx2 HB GE106 GE107⟩⟩
  case round =>
    clear H'
    obtain ⟨x8_1, x108000_1, x108001_1, x108002_1, x108003_1, rfl, HA, HK1, BK106, BK107, HB⟩ := hrel
    cases gk with
    | zero => exact absurd HA.out (by simp [class_Of.l0])
    | succ k1 =>
      have H := HA.out
      clear HA
      simp only [class_Of.l0] at H
      by_cases c5 : x8_1 < 256
      case neg =>
        rw [if_neg c5] at H
        have c5b0 : decide (x8_1 < 256) = false := decide_eq_false c5
        clear c5
        simp only [Option.some.injEq, Prod.mk.injEq] at H
        obtain ⟨rfl, rfl, rfl, rfl⟩ := H
        have hnb16 := NB107_106.out
        have hnc16 := NB106_107.out
        have hcz17_0 : wr.cell? ⟨gb107, 0, none⟩ = some (.int .u64 x108000_1) := (blk_cell BK107.out 0).trans rfl
        have hcz17_1 : wr.cell? ⟨gb107, 1, none⟩ = some (.int .u64 x108001_1) := (blk_cell BK107.out 1).trans rfl
        have hcz17_2 : wr.cell? ⟨gb107, 2, none⟩ = some (.int .u64 x108002_1) := (blk_cell BK107.out 2).trans rfl
        have hcz17_3 : wr.cell? ⟨gb107, 3, none⟩ = some (.int .u64 x108003_1) := (blk_cell BK107.out 3).trans rfl
        have hfz17_0 := blk_frozen BK107.out 0
        have hfz17_1 := blk_frozen BK107.out 1
        have hfz17_2 := blk_frozen BK107.out 2
        have hfz17_3 := blk_frozen BK107.out 3
        have hcz18_0 : wr.cell? ⟨gb106, 0, none⟩ = some (.int .u64 0) := (blk_cell BK106.out 0).trans rfl
        have hcz18_1 : wr.cell? ⟨gb106, 1, none⟩ = some (.int .u64 0) := (blk_cell BK106.out 1).trans rfl
        have hcz18_2 : wr.cell? ⟨gb106, 2, none⟩ = some (.int .u64 0) := (blk_cell BK106.out 2).trans rfl
        have hcz18_3 : wr.cell? ⟨gb106, 3, none⟩ = some (.int .u64 0) := (blk_cell BK106.out 3).trans rfl
        have hfz18_0 := blk_frozen BK106.out 0
        have hfz18_1 := blk_frozen BK106.out 1
        have hfz18_2 := blk_frozen BK106.out 2
        have hfz18_3 := blk_frozen BK106.out 3
        go_wp2
        refine bodyPost_ret (results_cell_row rfl _ _ gb106 33 #[.int .u64 x108000_1, .int .u64 x108001_1, .int .u64 x108002_1, .int .u64 x108003_1] (0, 0) _ rfl (by (with_reducible repeat (first | refine blk_drewN ?_ _ | refine blk_drew ?_ | refine blk_alloc ?_ _)); exact put4h BK106.out) Tryd.underlying33 rfl (by kernel_rfl)) rfl ?_
        exact ⟨by first | rfl | (simp [errW_none, errW_some] <;> rfl) | (simp [*, errW_none, errW_some] <;> rfl), belx2 HB GE106 GE107⟩
      rw [if_pos c5] at H
      have c5b0 : decide (x8_1 < 256) = true := decide_eq_true c5
      clear c5
      by_cases c6 : ((x8_1) % 256) ≥ a0
      case neg =>
        rw [if_neg c6] at H
        have c6b0 : decide (a0 ≤ ((x8_1) % 256)) = false := decide_eq_false c6
        clear c6
        have H' := Aside0.mk H
        clear H
        go_wp2
        go_roundg k1
        case measure => have := HK1.out; omega
        case rel => exact ⟨(wrap64 (x8_1 + 1)), (x108000_1), (x108001_1), (x108002_1), (x108003_1), (by first | rfl | (simp; done) | (simp [*]; done) | exact congrArg (Value.int .i64) (by unfold wrap64; omega)), (by first | exact H' | (subst_vars; exact H')), ⟨by have := HK1.out; omega⟩, ⟨bkx BK106⟩, ⟨bkx BK107⟩, ⟨belx2 HB GE106 GE107⟩⟩
      rw [if_pos c6] at H
      have c6b0 : decide (a0 ≤ ((x8_1) % 256)) = true := decide_eq_true c6
      clear c6
      by_cases c7 : ((x8_1) % 256) ≤ a1
      case neg =>
        rw [if_neg c7] at H
        have c7b0 : decide (((x8_1) % 256) ≤ a1) = false := decide_eq_false c7
        clear c7
        have H' := Aside0.mk H
        clear H
        go_wp2
        go_roundg k1
        case measure => have := HK1.out; omega
        case rel => exact ⟨(wrap64 (x8_1 + 1)), (x108000_1), (x108001_1), (x108002_1), (x108003_1), (by first | rfl | (simp; done) | (simp [*]; done) | exact congrArg (Value.int .i64) (by unfold wrap64; omega)), (by first | exact H' | (subst_vars; exact H')), ⟨by have := HK1.out; omega⟩, ⟨bkx BK106⟩, ⟨bkx BK107⟩, ⟨belx2 HB GE106 GE107⟩⟩
      rw [if_pos c7] at H
      have c7b0 : decide (((x8_1) % 256) ≤ a1) = true := decide_eq_true c7
      clear c7
      obtain ⟨y108, hy108⟩ : ∃ y_ : List Int, y_ = (([(x8_1) % 256] : List Int)) := ⟨_, rfl⟩
      replace H : ((class_Add.f x108000_1 x108001_1 x108002_1 x108003_1 y108).bind fun bt111 => (class_Of.l0 k1 a0 a1 (wrap64 (x8_1 + 1)) bt111.1 bt111.2.1 bt111.2.2.1 bt111.2.2.2)) = some (r1, r2, r3, r4) := by first | (rw [hy108]; with_reducible exact H) | (have H2_ := (Option.bind_some _ _).symm.trans H; rw [hy108]; with_reducible exact H2_) | (have H2_ := (Option.bind_some _ _).symm.trans H; with_reducible exact H2_) | with_reducible exact H | (rw [hy108]; exact H) | exact H
      have Ny108 := Aside0.mk hy108
      clear hy108
      replace H := Option.bind_eq_some_iff.mp H
      obtain ⟨⟨t111, t112, t113, t114⟩, A80, H⟩ := H
      replace H : (class_Of.l0 k1 a0 a1 (wrap64 (x8_1 + 1)) t111 t112 t113 t114) = some (r1, r2, r3, r4) := H
      have A8 := Aside0.mk A80
      clear A80
      have H' := Aside0.mk H
      clear H
      have hnb9 := NB107_106.out
      have hnc9 := NB106_107.out
      have hcz10_0 : wr.cell? ⟨gb107, 0, none⟩ = some (.int .u64 x108000_1) := (blk_cell BK107.out 0).trans rfl
      have hcz10_1 : wr.cell? ⟨gb107, 1, none⟩ = some (.int .u64 x108001_1) := (blk_cell BK107.out 1).trans rfl
      have hcz10_2 : wr.cell? ⟨gb107, 2, none⟩ = some (.int .u64 x108002_1) := (blk_cell BK107.out 2).trans rfl
      have hcz10_3 : wr.cell? ⟨gb107, 3, none⟩ = some (.int .u64 x108003_1) := (blk_cell BK107.out 3).trans rfl
      have hfz10_0 := blk_frozen BK107.out 0
      have hfz10_1 := blk_frozen BK107.out 1
      have hfz10_2 := blk_frozen BK107.out 2
      have hfz10_3 := blk_frozen BK107.out 3
      go_wp2_with (first | ((with_reducible refine gate_dst (N := 23) rfl ?_); refine Kd.R_lit (Kd.int .u8) _ 5 ?hg (N := 23) ?hd (xs := ([(x8_1) % 256] : List Int)) (inner := [.int .u8 ((x8_1) % 256)]) (ok := fun _ => True) (okp := fun _ => True) ?hr ?hp (fun _ hk => hk) trivial (Below.refl _ _) (Nat.le_refl _) (by simp) ?_; (case hd => rfl); (case hg => rfl); (case hr => first | (go_simp; done) | (go_simp; rfl)); (case hp => exact (Reps.one (show Kd.M (Kd.int .u8) _ _ _ ((x8_1) % 256) [.int .u8 ((x8_1) % 256)] from rfl) (Reps.none _ _))); intro v109 w11 ho12 hb hg_ hnew_; clear hg_ hnew_; (first | rw [← Ny108.out] at ho12 | (simp only [Int.reduceToNat] at ho12; rw [← Ny108.out] at ho12)); have n0_ := Aside0.mk (Kd.R_lower ho12 (below_size (belx2 HB GE106 GE107))); have n1_ := Aside0.mk (blk_below (g := gb106) (o := .cells #[.int .u64 0, .int .u64 0, .int .u64 0, .int .u64 0] 33 (0, 0)) (bkx BK106) hb); have n2_ := Aside0.mk (blk_below (g := gb107) (o := .cells #[.int .u64 x108000_1, .int .u64 x108001_1, .int .u64 x108002_1, .int .u64 x108003_1] 33 (0, 0)) (bkx BK107) hb); have n3_ := Aside0.mk (below_step (belx2 HB GE106 GE107) hb); clear BK106; clear BK107; clear HB; have HO110 := n0_; have BK106 := n1_; have BK107 := n2_; have HB := n3_; clear n0_ n1_ n2_ n3_; clear hb ho12; obtain ⟨Ao13, co13, eo13⟩ := Kd.R_slice HO110.out; subst eo13) | ((with_reducible refine gate_callee (f := 62) rfl ?_); refine goesL_ (some 24) rfl rfl Tryd.func62 (by kernel_rfl) rfl #[.agg #[.int .u64 x108000_1, .int .u64 x108001_1, .int .u64 x108002_1, .int .u64 x108003_1], .slice Ao13 y108.length co13] rfl (by (try simp only [List.map_toArray, List.map_cons, List.map_nil]); first | done | rfl | (simp only [List.length_drop, List.length_take]; rfl)) ?_; (with_reducible refine (class_Add.calls x108000_1 x108001_1 x108002_1 x108003_1 _ _ y108 t111 t112 t113 t114 _ ?side1 ?side2 A8.out).mono ?_); (case side1 => repeat (first | exact (Kd.R_reads' HO110.out).2.2 | (with_reducible refine Kd.C_alloc ?_ _) | (with_reducible refine Kd.C_drewN ?_ _) | (with_reducible refine Kd.C_drew ?_))); (case side2 => exact (Kd.R_reads' HO110.out).2.1); rintro e w14 ⟨rfl, hb⟩; refine ⟨_, rfl, ?_⟩; have n0_ := Aside0.mk (Kd.R_below (by (with_reducible repeat (first | apply Kd.R_alloc | apply Kd.R_drewN | apply Kd.R_drew)); exact HO110.out) hb); have n1_ := Aside0.mk (blk_below (g := gb106) (o := .cells #[.int .u64 0, .int .u64 0, .int .u64 0, .int .u64 0] 33 (0, 0)) (bkx BK106) hb); have n2_ := Aside0.mk (blk_below (g := gb107) (o := .cells #[.int .u64 x108000_1, .int .u64 x108001_1, .int .u64 x108002_1, .int .u64 x108003_1] 33 (0, 0)) (bkx BK107) hb); have n3_ := Aside0.mk (below_step (belx2 HB GE106 GE107) hb); clear HO110; clear BK106; clear BK107; clear HB; have HO110 := n0_; have BK106 := n1_; have BK107 := n2_; have HB := n3_; clear n0_ n1_ n2_ n3_; (try clear hb); (try clear hb2); (try clear hk); (try clear hi); obtain ⟨hcz15_0, hcz15_1, hcz15_2, hcz15_3, hfz15_0, hfz15_1, hfz15_2, hfz15_3⟩ := cells4 BK107.out))
      go_roundg k1
      case measure => have := HK1.out; omega
      case rel => exact ⟨(wrap64 (x8_1 + 1)), (t111), (t112), (t113), (t114), (by first | rfl | (simp; done) | (simp [*]; done) | exact congrArg (Value.int .i64) (by unfold wrap64; omega)), (by first | exact H' | (subst_vars; exact H')), ⟨by have := HK1.out; omega⟩, ⟨by (with_reducible repeat (first | refine blk_drewN ?_ _ | refine blk_drew ?_ | refine blk_alloc ?_ _ | refine blk_far ?_ NB106_107.out _)); exact BK106.out⟩, ⟨by (with_reducible repeat (first | refine blk_drewN ?_ _ | refine blk_drew ?_ | refine blk_alloc ?_ _)); exact put4h BK107.out⟩, ⟨belx2 HB GE106 GE107⟩⟩
end Go.Proofs.YtepnbnpgifpfbaaDoor.G
namespace Go.Proofs.YtepnbnpgifpfbaaDoor.G
open Go.RowKit Go.Proofs.YtepnbnpgifpfbaaDoorW.PrintWords Go.Proofs.YtepnbnpgifpfbaaDoorW.PrintLast Go.Proofs.YtepnbnpgifpfbaaDoorW.PrintMore
attribute [local go_sem] max2_int min2_int max_two min_two max_three min_three max_four min_four
set_option linter.unusedVariables false
set_option linter.unusedSimpArgs false
def lex_row.f (k : Nat) (a0 : ByteArray) : Option (Int × Int × Int × Int × Bool) := (strings_Cut.f a0 (⟨#[45]⟩ : ByteArray)).bind fun bt116 => ((lex_hex.f bt116.1).bind fun bt119 => (if bt116.2.2 = true then ((lex_hex.f bt116.2.1).bind fun bt121 => ((class_Of.f k bt119.1 bt121.1).bind fun bt123 => (if bt119.2 = true then (if bt121.2 = true then (some (bt123.1, bt123.2.1, bt123.2.2.1, bt123.2.2.2, decide (bt119.1 ≤ bt121.1))) else (some (bt123.1, bt123.2.1, bt123.2.2.1, bt123.2.2.2, false))) else (some (bt123.1, bt123.2.1, bt123.2.2.1, bt123.2.2.2, false))))) else ((class_Of.f k bt119.1 bt119.1).bind fun bt127 => (some (bt127.1, bt127.2.1, bt127.2.2.1, bt127.2.2.2, bt119.2)))))
set_option maxHeartbeats 8000000 in
set_option maxRecDepth 100000 in
theorem lex_row.calls (k : Nat) (a0 : ByteArray) (r1 : Int) (r2 : Int) (r3 : Int) (r4 : Int) (r5 : Bool) (w : World) (hL_ : LaidW w) (h : lex_row.f k a0 = some (r1, r2, r3, r4, r5)) :
    Calls Tryd.prog 44 #[.string a0] w fun e w' => e = .returned (.tuple #[.agg #[.int .u64 r1, .int .u64 r2, .int .u64 r3, .int .u64 r4], .bool r5]) ∧ Below w.heap.size w w' := by
  have hu33 := Tryd.underlying33
  have HB := Aside0.mk (Below.refl w.heap.size w)
  have H : ((strings_Cut.f a0 (⟨#[45]⟩ : ByteArray)).bind fun bt116 => ((lex_hex.f bt116.1).bind fun bt119 => (if bt116.2.2 = true then ((lex_hex.f bt116.2.1).bind fun bt121 => ((class_Of.f k bt119.1 bt121.1).bind fun bt123 => (if bt119.2 = true then (if bt121.2 = true then (some (bt123.1, bt123.2.1, bt123.2.2.1, bt123.2.2.2, decide (bt119.1 ≤ bt121.1))) else (some (bt123.1, bt123.2.1, bt123.2.2.1, bt123.2.2.2, false))) else (some (bt123.1, bt123.2.1, bt123.2.2.1, bt123.2.2.2, false))))) else ((class_Of.f k bt119.1 bt119.1).bind fun bt127 => (some (bt127.1, bt127.2.1, bt127.2.2.1, bt127.2.2.2, bt119.2)))))) = some (r1, r2, r3, r4, r5) := h
  clear h
  replace H := Option.bind_eq_some_iff.mp H
  obtain ⟨⟨t116, t117, t118⟩, A20, H⟩ := H
  replace H : ((lex_hex.f t116).bind fun bt119 => (if t118 = true then ((lex_hex.f t117).bind fun bt121 => ((class_Of.f k bt119.1 bt121.1).bind fun bt123 => (if bt119.2 = true then (if bt121.2 = true then (some (bt123.1, bt123.2.1, bt123.2.2.1, bt123.2.2.2, decide (bt119.1 ≤ bt121.1))) else (some (bt123.1, bt123.2.1, bt123.2.2.1, bt123.2.2.2, false))) else (some (bt123.1, bt123.2.1, bt123.2.2.1, bt123.2.2.2, false))))) else ((class_Of.f k bt119.1 bt119.1).bind fun bt127 => (some (bt127.1, bt127.2.1, bt127.2.2.1, bt127.2.2.2, bt119.2))))) = some (r1, r2, r3, r4, r5) := H
  have A2 := Aside0.mk A20
  clear A20
  replace H := Option.bind_eq_some_iff.mp H
  obtain ⟨⟨t119, t120⟩, A30, H⟩ := H
  replace H : (if t118 = true then ((lex_hex.f t117).bind fun bt121 => ((class_Of.f k t119 bt121.1).bind fun bt123 => (if t120 = true then (if bt121.2 = true then (some (bt123.1, bt123.2.1, bt123.2.2.1, bt123.2.2.2, decide (t119 ≤ bt121.1))) else (some (bt123.1, bt123.2.1, bt123.2.2.1, bt123.2.2.2, false))) else (some (bt123.1, bt123.2.1, bt123.2.2.1, bt123.2.2.2, false))))) else ((class_Of.f k t119 t119).bind fun bt127 => (some (bt127.1, bt127.2.1, bt127.2.2.1, bt127.2.2.2, t120)))) = some (r1, r2, r3, r4, r5) := H
  have A3 := Aside0.mk A30
  clear A30
  by_cases c4 : t118 = true
  case neg =>
    replace c4 := Bool.eq_false_iff.mpr c4
    subst c4
    have H1 : ((class_Of.f k t119 t119).bind fun bt127 => (some (bt127.1, bt127.2.1, bt127.2.2.1, bt127.2.2.2, t120))) = some (r1, r2, r3, r4, r5) := by rw [if_neg (show ¬ (false = true) by decide)] at H; exact H
    clear H
    have H := H1
    clear H1
    replace H := Option.bind_eq_some_iff.mp H
    obtain ⟨⟨t127, t128, t129, t130⟩, A180, H⟩ := H
    replace H : (some (t127, t128, t129, t130, t120)) = some (r1, r2, r3, r4, r5) := H
    have A18 := Aside0.mk A180
    clear A180
    simp only [Option.some.injEq, Prod.mk.injEq] at H
    obtain ⟨rfl, rfl, rfl, rfl, rfl⟩ := H
    go_enter Tryd.func44, Tryd.ntmps44
    go_wp2_with (first | ((with_reducible refine gate_dst (N := 2) rfl ?_); refine box_event ?hg (N := 2) ?hd (cs := #[.int .u64 0, .int .u64 0, .int .u64 0, .int .u64 0]) (t := 33) ?hr ?_; (case hd => rfl); (case hg => rfl); (case hr => first | (go_simp; done) | (go_simp; rfl)); intro gb115 hg w19 hbox hb; have n0_ := Aside0.mk (below_step (belx HB) hb); have n1_ := Aside0.mk (hbox); have n2_ := Aside0.mk ((by rw [hg]; exact (below_size (belx HB)) : w.heap.size ≤ gb115)); have n3_ := Aside0.mk ((by rw [hg]; exact (below_size (belx HB)) : w.heap.size ≤ gb115)); clear HB; have HB := n0_; have BK115 := n1_; have GW115 := n2_; have GE115 := n3_; clear n0_ n1_ n2_ n3_; clear hb hbox hg) | ((with_reducible refine gate_callee (f := 46) rfl ?_); refine goesL_ (some 13) rfl rfl Tryd.func46 (by kernel_rfl) rfl #[.string a0, .string (⟨#[45]⟩ : ByteArray)] rfl (by (try simp only [List.map_toArray, List.map_cons, List.map_nil]); first | done | rfl | (simp only [List.length_drop, List.length_take]; rfl)) ?_; (with_reducible refine (strings_Cut.calls a0 (⟨#[45]⟩ : ByteArray) t116 t117 false _ ?side1 A2.out).mono ?_); (case side1 => exact (by repeat (first | exact hL_ | apply LaidW.drewN | apply LaidW.drew | refine LaidW.below hL_ (belx1 HB GE115)))); rintro e w' ⟨rfl, ⟨nd, rfl⟩⟩; refine ⟨_, rfl, ?_⟩; (try (rw [drewN_self w19]; generalize hq_ : World.drewN w19 _ = w19; have n0_ : Aside0 (w19.heap[gb115]? = some (.cells #[.int .u64 0, .int .u64 0, .int .u64 0, .int .u64 0] 33 (0, 0))) := ⟨by rw [← hq_]; exact (bkx BK115)⟩; have n1_ : Aside0 (Below w.heap.size w w19) := ⟨by rw [← hq_]; exact (belx1 HB GE115)⟩; clear BK115 HB hq_; have BK115 := n0_; have HB := n1_; clear n0_ n1_))) | ((with_reducible refine gate_callee (f := 52) rfl ?_); refine goesL_ (some 19) rfl rfl Tryd.func52 (by kernel_rfl) rfl #[.string t116] rfl (by (try simp only [List.map_toArray, List.map_cons, List.map_nil]); first | done | rfl | (simp only [List.length_drop, List.length_take]; rfl)) ?_; (with_reducible refine (lex_hex.calls t116 t119 t120 _ A3.out).mono ?_); rintro e w' ⟨rfl, ⟨nd, rfl⟩⟩; refine ⟨_, rfl, ?_⟩; (try (rw [drewN_self w19]; generalize hq_ : World.drewN w19 _ = w19; have n0_ : Aside0 (w19.heap[gb115]? = some (.cells #[.int .u64 0, .int .u64 0, .int .u64 0, .int .u64 0] 33 (0, 0))) := ⟨by rw [← hq_]; exact (bkx BK115)⟩; have n1_ : Aside0 (Below w.heap.size w w19) := ⟨by rw [← hq_]; exact (belx1 HB GE115)⟩; clear BK115 HB hq_; have BK115 := n0_; have HB := n1_; clear n0_ n1_))) | ((with_reducible refine gate_callee (f := 53) rfl ?_); refine goesL_ (some 26) rfl rfl Tryd.func53 (by kernel_rfl) rfl #[.int .u8 t119, .int .u8 t119] rfl (by (try simp only [List.map_toArray, List.map_cons, List.map_nil]); first | done | rfl | (simp only [List.length_drop, List.length_take]; rfl)) ?_; (with_reducible refine (class_Of.calls k t119 t119 t127 t128 t129 t130 _ A18.out).mono ?_); rintro e w20 ⟨rfl, hb⟩; refine ⟨_, rfl, ?_⟩; have n0_ := Aside0.mk (blk_below (g := gb115) (o := .cells #[.int .u64 0, .int .u64 0, .int .u64 0, .int .u64 0] 33 (0, 0)) (bkx BK115) hb); have n1_ := Aside0.mk (below_step (belx1 HB GE115) hb); clear BK115; clear HB; have BK115 := n0_; have HB := n1_; clear n0_ n1_; (try clear hb); (try clear hb2); (try clear hk); (try clear hi); obtain ⟨hcz21_0, hcz21_1, hcz21_2, hcz21_3, hfz21_0, hfz21_1, hfz21_2, hfz21_3⟩ := cells4 BK115.out))
    refine bodyPost_ret (results_ct rfl _ _ gb115 33 #[.int .u64 t127, .int .u64 t128, .int .u64 t129, .int .u64 t130] (0, 0) _ rfl (by (with_reducible repeat (first | refine blk_drewN ?_ _ | refine blk_drew ?_ | refine blk_alloc ?_ _)); exact put4h BK115.out) Tryd.underlying33 rfl (by kernel_rfl)) rfl ?_
    exact ⟨by first | rfl | (simp [errW_none, errW_some] <;> rfl) | (simp [*, errW_none, errW_some] <;> rfl), belx1 HB GE115⟩
  subst c4
  have H1 : ((lex_hex.f t117).bind fun bt121 => ((class_Of.f k t119 bt121.1).bind fun bt123 => (if t120 = true then (if bt121.2 = true then (some (bt123.1, bt123.2.1, bt123.2.2.1, bt123.2.2.2, decide (t119 ≤ bt121.1))) else (some (bt123.1, bt123.2.1, bt123.2.2.1, bt123.2.2.2, false))) else (some (bt123.1, bt123.2.1, bt123.2.2.1, bt123.2.2.2, false))))) = some (r1, r2, r3, r4, r5) := by rw [if_pos rfl] at H; exact H
  clear H
  have H := H1
  clear H1
  replace H := Option.bind_eq_some_iff.mp H
  obtain ⟨⟨t121, t122⟩, A50, H⟩ := H
  replace H : ((class_Of.f k t119 t121).bind fun bt123 => (if t120 = true then (if t122 = true then (some (bt123.1, bt123.2.1, bt123.2.2.1, bt123.2.2.2, decide (t119 ≤ t121))) else (some (bt123.1, bt123.2.1, bt123.2.2.1, bt123.2.2.2, false))) else (some (bt123.1, bt123.2.1, bt123.2.2.1, bt123.2.2.2, false)))) = some (r1, r2, r3, r4, r5) := H
  have A5 := Aside0.mk A50
  clear A50
  replace H := Option.bind_eq_some_iff.mp H
  obtain ⟨⟨t123, t124, t125, t126⟩, A60, H⟩ := H
  replace H : (if t120 = true then (if t122 = true then (some (t123, t124, t125, t126, decide (t119 ≤ t121))) else (some (t123, t124, t125, t126, false))) else (some (t123, t124, t125, t126, false))) = some (r1, r2, r3, r4, r5) := H
  have A6 := Aside0.mk A60
  clear A60
  by_cases c7 : t120 = true
  case neg =>
    replace c7 := Bool.eq_false_iff.mpr c7
    subst c7
    have H1 : (some (t123, t124, t125, t126, false)) = some (r1, r2, r3, r4, r5) := by rw [if_neg (show ¬ (false = true) by decide)] at H; exact H
    clear H
    have H := H1
    clear H1
    simp only [Option.some.injEq, Prod.mk.injEq] at H
    obtain ⟨rfl, rfl, rfl, rfl, rfl⟩ := H
    go_enter Tryd.func44, Tryd.ntmps44
    go_wp2_with (first | ((with_reducible refine gate_dst (N := 2) rfl ?_); refine box_event ?hg (N := 2) ?hd (cs := #[.int .u64 0, .int .u64 0, .int .u64 0, .int .u64 0]) (t := 33) ?hr ?_; (case hd => rfl); (case hg => rfl); (case hr => first | (go_simp; done) | (go_simp; rfl)); intro gb115 hg w15 hbox hb; have n0_ := Aside0.mk (below_step (belx HB) hb); have n1_ := Aside0.mk (hbox); have n2_ := Aside0.mk ((by rw [hg]; exact (below_size (belx HB)) : w.heap.size ≤ gb115)); have n3_ := Aside0.mk ((by rw [hg]; exact (below_size (belx HB)) : w.heap.size ≤ gb115)); clear HB; have HB := n0_; have BK115 := n1_; have GW115 := n2_; have GE115 := n3_; clear n0_ n1_ n2_ n3_; clear hb hbox hg) | ((with_reducible refine gate_callee (f := 46) rfl ?_); refine goesL_ (some 13) rfl rfl Tryd.func46 (by kernel_rfl) rfl #[.string a0, .string (⟨#[45]⟩ : ByteArray)] rfl (by (try simp only [List.map_toArray, List.map_cons, List.map_nil]); first | done | rfl | (simp only [List.length_drop, List.length_take]; rfl)) ?_; (with_reducible refine (strings_Cut.calls a0 (⟨#[45]⟩ : ByteArray) t116 t117 true _ ?side1 A2.out).mono ?_); (case side1 => exact (by repeat (first | exact hL_ | apply LaidW.drewN | apply LaidW.drew | refine LaidW.below hL_ (belx1 HB GE115)))); rintro e w' ⟨rfl, ⟨nd, rfl⟩⟩; refine ⟨_, rfl, ?_⟩; (try (rw [drewN_self w15]; generalize hq_ : World.drewN w15 _ = w15; have n0_ : Aside0 (w15.heap[gb115]? = some (.cells #[.int .u64 0, .int .u64 0, .int .u64 0, .int .u64 0] 33 (0, 0))) := ⟨by rw [← hq_]; exact (bkx BK115)⟩; have n1_ : Aside0 (Below w.heap.size w w15) := ⟨by rw [← hq_]; exact (belx1 HB GE115)⟩; clear BK115 HB hq_; have BK115 := n0_; have HB := n1_; clear n0_ n1_))) | ((with_reducible refine gate_callee (f := 52) rfl ?_); refine goesL_ (some 19) rfl rfl Tryd.func52 (by kernel_rfl) rfl #[.string t116] rfl (by (try simp only [List.map_toArray, List.map_cons, List.map_nil]); first | done | rfl | (simp only [List.length_drop, List.length_take]; rfl)) ?_; (with_reducible refine (lex_hex.calls t116 t119 false _ A3.out).mono ?_); rintro e w' ⟨rfl, ⟨nd, rfl⟩⟩; refine ⟨_, rfl, ?_⟩; (try (rw [drewN_self w15]; generalize hq_ : World.drewN w15 _ = w15; have n0_ : Aside0 (w15.heap[gb115]? = some (.cells #[.int .u64 0, .int .u64 0, .int .u64 0, .int .u64 0] 33 (0, 0))) := ⟨by rw [← hq_]; exact (bkx BK115)⟩; have n1_ : Aside0 (Below w.heap.size w w15) := ⟨by rw [← hq_]; exact (belx1 HB GE115)⟩; clear BK115 HB hq_; have BK115 := n0_; have HB := n1_; clear n0_ n1_))) | ((with_reducible refine gate_callee (f := 52) rfl ?_); refine goesL_ (some 30) rfl rfl Tryd.func52 (by kernel_rfl) rfl #[.string t117] rfl (by (try simp only [List.map_toArray, List.map_cons, List.map_nil]); first | done | rfl | (simp only [List.length_drop, List.length_take]; rfl)) ?_; (with_reducible refine (lex_hex.calls t117 t121 t122 _ A5.out).mono ?_); rintro e w' ⟨rfl, ⟨nd, rfl⟩⟩; refine ⟨_, rfl, ?_⟩; (try (rw [drewN_self w15]; generalize hq_ : World.drewN w15 _ = w15; have n0_ : Aside0 (w15.heap[gb115]? = some (.cells #[.int .u64 0, .int .u64 0, .int .u64 0, .int .u64 0] 33 (0, 0))) := ⟨by rw [← hq_]; exact (bkx BK115)⟩; have n1_ : Aside0 (Below w.heap.size w w15) := ⟨by rw [← hq_]; exact (belx1 HB GE115)⟩; clear BK115 HB hq_; have BK115 := n0_; have HB := n1_; clear n0_ n1_))) | ((with_reducible refine gate_callee (f := 53) rfl ?_); refine goesL_ (some 35) rfl rfl Tryd.func53 (by kernel_rfl) rfl #[.int .u8 t119, .int .u8 t121] rfl (by (try simp only [List.map_toArray, List.map_cons, List.map_nil]); first | done | rfl | (simp only [List.length_drop, List.length_take]; rfl)) ?_; (with_reducible refine (class_Of.calls k t119 t121 t123 t124 t125 t126 _ A6.out).mono ?_); rintro e w16 ⟨rfl, hb⟩; refine ⟨_, rfl, ?_⟩; have n0_ := Aside0.mk (blk_below (g := gb115) (o := .cells #[.int .u64 0, .int .u64 0, .int .u64 0, .int .u64 0] 33 (0, 0)) (bkx BK115) hb); have n1_ := Aside0.mk (below_step (belx1 HB GE115) hb); clear BK115; clear HB; have BK115 := n0_; have HB := n1_; clear n0_ n1_; (try clear hb); (try clear hb2); (try clear hk); (try clear hi); obtain ⟨hcz17_0, hcz17_1, hcz17_2, hcz17_3, hfz17_0, hfz17_1, hfz17_2, hfz17_3⟩ := cells4 BK115.out))
    refine bodyPost_ret (results_ct rfl _ _ gb115 33 #[.int .u64 t123, .int .u64 t124, .int .u64 t125, .int .u64 t126] (0, 0) _ rfl (by (with_reducible repeat (first | refine blk_drewN ?_ _ | refine blk_drew ?_ | refine blk_alloc ?_ _)); exact put4h BK115.out) Tryd.underlying33 rfl (by kernel_rfl)) rfl ?_
    exact ⟨by first | rfl | (simp [errW_none, errW_some] <;> rfl) | (simp [*, errW_none, errW_some] <;> rfl), belx1 HB GE115⟩
  subst c7
  have H1 : (if t122 = true then (some (t123, t124, t125, t126, decide (t119 ≤ t121))) else (some (t123, t124, t125, t126, false))) = some (r1, r2, r3, r4, r5) := by rw [if_pos rfl] at H; exact H
  clear H
  have H := H1
  clear H1
  by_cases c8 : t122 = true
  case pos =>
    subst c8
    have H1 : (some (t123, t124, t125, t126, decide (t119 ≤ t121))) = some (r1, r2, r3, r4, r5) := by rw [if_pos rfl] at H; exact H
    clear H
    have H := H1
    clear H1
    simp only [Option.some.injEq, Prod.mk.injEq] at H
    obtain ⟨rfl, rfl, rfl, rfl, rfl⟩ := H
    go_enter Tryd.func44, Tryd.ntmps44
    go_wp2_with (first | ((with_reducible refine gate_dst (N := 2) rfl ?_); refine box_event ?hg (N := 2) ?hd (cs := #[.int .u64 0, .int .u64 0, .int .u64 0, .int .u64 0]) (t := 33) ?hr ?_; (case hd => rfl); (case hg => rfl); (case hr => first | (go_simp; done) | (go_simp; rfl)); intro gb115 hg w9 hbox hb; have n0_ := Aside0.mk (below_step (belx HB) hb); have n1_ := Aside0.mk (hbox); have n2_ := Aside0.mk ((by rw [hg]; exact (below_size (belx HB)) : w.heap.size ≤ gb115)); have n3_ := Aside0.mk ((by rw [hg]; exact (below_size (belx HB)) : w.heap.size ≤ gb115)); clear HB; have HB := n0_; have BK115 := n1_; have GW115 := n2_; have GE115 := n3_; clear n0_ n1_ n2_ n3_; clear hb hbox hg) | ((with_reducible refine gate_callee (f := 46) rfl ?_); refine goesL_ (some 13) rfl rfl Tryd.func46 (by kernel_rfl) rfl #[.string a0, .string (⟨#[45]⟩ : ByteArray)] rfl (by (try simp only [List.map_toArray, List.map_cons, List.map_nil]); first | done | rfl | (simp only [List.length_drop, List.length_take]; rfl)) ?_; (with_reducible refine (strings_Cut.calls a0 (⟨#[45]⟩ : ByteArray) t116 t117 true _ ?side1 A2.out).mono ?_); (case side1 => exact (by repeat (first | exact hL_ | apply LaidW.drewN | apply LaidW.drew | refine LaidW.below hL_ (belx1 HB GE115)))); rintro e w' ⟨rfl, ⟨nd, rfl⟩⟩; refine ⟨_, rfl, ?_⟩; (try (rw [drewN_self w9]; generalize hq_ : World.drewN w9 _ = w9; have n0_ : Aside0 (w9.heap[gb115]? = some (.cells #[.int .u64 0, .int .u64 0, .int .u64 0, .int .u64 0] 33 (0, 0))) := ⟨by rw [← hq_]; exact (bkx BK115)⟩; have n1_ : Aside0 (Below w.heap.size w w9) := ⟨by rw [← hq_]; exact (belx1 HB GE115)⟩; clear BK115 HB hq_; have BK115 := n0_; have HB := n1_; clear n0_ n1_))) | ((with_reducible refine gate_callee (f := 52) rfl ?_); refine goesL_ (some 19) rfl rfl Tryd.func52 (by kernel_rfl) rfl #[.string t116] rfl (by (try simp only [List.map_toArray, List.map_cons, List.map_nil]); first | done | rfl | (simp only [List.length_drop, List.length_take]; rfl)) ?_; (with_reducible refine (lex_hex.calls t116 t119 true _ A3.out).mono ?_); rintro e w' ⟨rfl, ⟨nd, rfl⟩⟩; refine ⟨_, rfl, ?_⟩; (try (rw [drewN_self w9]; generalize hq_ : World.drewN w9 _ = w9; have n0_ : Aside0 (w9.heap[gb115]? = some (.cells #[.int .u64 0, .int .u64 0, .int .u64 0, .int .u64 0] 33 (0, 0))) := ⟨by rw [← hq_]; exact (bkx BK115)⟩; have n1_ : Aside0 (Below w.heap.size w w9) := ⟨by rw [← hq_]; exact (belx1 HB GE115)⟩; clear BK115 HB hq_; have BK115 := n0_; have HB := n1_; clear n0_ n1_))) | ((with_reducible refine gate_callee (f := 52) rfl ?_); refine goesL_ (some 30) rfl rfl Tryd.func52 (by kernel_rfl) rfl #[.string t117] rfl (by (try simp only [List.map_toArray, List.map_cons, List.map_nil]); first | done | rfl | (simp only [List.length_drop, List.length_take]; rfl)) ?_; (with_reducible refine (lex_hex.calls t117 t121 true _ A5.out).mono ?_); rintro e w' ⟨rfl, ⟨nd, rfl⟩⟩; refine ⟨_, rfl, ?_⟩; (try (rw [drewN_self w9]; generalize hq_ : World.drewN w9 _ = w9; have n0_ : Aside0 (w9.heap[gb115]? = some (.cells #[.int .u64 0, .int .u64 0, .int .u64 0, .int .u64 0] 33 (0, 0))) := ⟨by rw [← hq_]; exact (bkx BK115)⟩; have n1_ : Aside0 (Below w.heap.size w w9) := ⟨by rw [← hq_]; exact (belx1 HB GE115)⟩; clear BK115 HB hq_; have BK115 := n0_; have HB := n1_; clear n0_ n1_))) | ((with_reducible refine gate_callee (f := 53) rfl ?_); refine goesL_ (some 35) rfl rfl Tryd.func53 (by kernel_rfl) rfl #[.int .u8 t119, .int .u8 t121] rfl (by (try simp only [List.map_toArray, List.map_cons, List.map_nil]); first | done | rfl | (simp only [List.length_drop, List.length_take]; rfl)) ?_; (with_reducible refine (class_Of.calls k t119 t121 t123 t124 t125 t126 _ A6.out).mono ?_); rintro e w10 ⟨rfl, hb⟩; refine ⟨_, rfl, ?_⟩; have n0_ := Aside0.mk (blk_below (g := gb115) (o := .cells #[.int .u64 0, .int .u64 0, .int .u64 0, .int .u64 0] 33 (0, 0)) (bkx BK115) hb); have n1_ := Aside0.mk (below_step (belx1 HB GE115) hb); clear BK115; clear HB; have BK115 := n0_; have HB := n1_; clear n0_ n1_; (try clear hb); (try clear hb2); (try clear hk); (try clear hi); obtain ⟨hcz11_0, hcz11_1, hcz11_2, hcz11_3, hfz11_0, hfz11_1, hfz11_2, hfz11_3⟩ := cells4 BK115.out))
    refine bodyPost_ret (results_ct rfl _ _ gb115 33 #[.int .u64 t123, .int .u64 t124, .int .u64 t125, .int .u64 t126] (0, 0) _ rfl (by (with_reducible repeat (first | refine blk_drewN ?_ _ | refine blk_drew ?_ | refine blk_alloc ?_ _)); exact put4h BK115.out) Tryd.underlying33 rfl (by kernel_rfl)) rfl ?_
    exact ⟨by first | rfl | (simp [errW_none, errW_some] <;> rfl) | (simp [*, errW_none, errW_some] <;> rfl), belx1 HB GE115⟩
  replace c8 := Bool.eq_false_iff.mpr c8
  subst c8
  have H1 : (some (t123, t124, t125, t126, false)) = some (r1, r2, r3, r4, r5) := by rw [if_neg (show ¬ (false = true) by decide)] at H; exact H
  clear H
  have H := H1
  clear H1
  simp only [Option.some.injEq, Prod.mk.injEq] at H
  obtain ⟨rfl, rfl, rfl, rfl, rfl⟩ := H
  go_enter Tryd.func44, Tryd.ntmps44
  go_wp2_with (first | ((with_reducible refine gate_dst (N := 2) rfl ?_); refine box_event ?hg (N := 2) ?hd (cs := #[.int .u64 0, .int .u64 0, .int .u64 0, .int .u64 0]) (t := 33) ?hr ?_; (case hd => rfl); (case hg => rfl); (case hr => first | (go_simp; done) | (go_simp; rfl)); intro gb115 hg w12 hbox hb; have n0_ := Aside0.mk (below_step (belx HB) hb); have n1_ := Aside0.mk (hbox); have n2_ := Aside0.mk ((by rw [hg]; exact (below_size (belx HB)) : w.heap.size ≤ gb115)); have n3_ := Aside0.mk ((by rw [hg]; exact (below_size (belx HB)) : w.heap.size ≤ gb115)); clear HB; have HB := n0_; have BK115 := n1_; have GW115 := n2_; have GE115 := n3_; clear n0_ n1_ n2_ n3_; clear hb hbox hg) | ((with_reducible refine gate_callee (f := 46) rfl ?_); refine goesL_ (some 13) rfl rfl Tryd.func46 (by kernel_rfl) rfl #[.string a0, .string (⟨#[45]⟩ : ByteArray)] rfl (by (try simp only [List.map_toArray, List.map_cons, List.map_nil]); first | done | rfl | (simp only [List.length_drop, List.length_take]; rfl)) ?_; (with_reducible refine (strings_Cut.calls a0 (⟨#[45]⟩ : ByteArray) t116 t117 true _ ?side1 A2.out).mono ?_); (case side1 => exact (by repeat (first | exact hL_ | apply LaidW.drewN | apply LaidW.drew | refine LaidW.below hL_ (belx1 HB GE115)))); rintro e w' ⟨rfl, ⟨nd, rfl⟩⟩; refine ⟨_, rfl, ?_⟩; (try (rw [drewN_self w12]; generalize hq_ : World.drewN w12 _ = w12; have n0_ : Aside0 (w12.heap[gb115]? = some (.cells #[.int .u64 0, .int .u64 0, .int .u64 0, .int .u64 0] 33 (0, 0))) := ⟨by rw [← hq_]; exact (bkx BK115)⟩; have n1_ : Aside0 (Below w.heap.size w w12) := ⟨by rw [← hq_]; exact (belx1 HB GE115)⟩; clear BK115 HB hq_; have BK115 := n0_; have HB := n1_; clear n0_ n1_))) | ((with_reducible refine gate_callee (f := 52) rfl ?_); refine goesL_ (some 19) rfl rfl Tryd.func52 (by kernel_rfl) rfl #[.string t116] rfl (by (try simp only [List.map_toArray, List.map_cons, List.map_nil]); first | done | rfl | (simp only [List.length_drop, List.length_take]; rfl)) ?_; (with_reducible refine (lex_hex.calls t116 t119 true _ A3.out).mono ?_); rintro e w' ⟨rfl, ⟨nd, rfl⟩⟩; refine ⟨_, rfl, ?_⟩; (try (rw [drewN_self w12]; generalize hq_ : World.drewN w12 _ = w12; have n0_ : Aside0 (w12.heap[gb115]? = some (.cells #[.int .u64 0, .int .u64 0, .int .u64 0, .int .u64 0] 33 (0, 0))) := ⟨by rw [← hq_]; exact (bkx BK115)⟩; have n1_ : Aside0 (Below w.heap.size w w12) := ⟨by rw [← hq_]; exact (belx1 HB GE115)⟩; clear BK115 HB hq_; have BK115 := n0_; have HB := n1_; clear n0_ n1_))) | ((with_reducible refine gate_callee (f := 52) rfl ?_); refine goesL_ (some 30) rfl rfl Tryd.func52 (by kernel_rfl) rfl #[.string t117] rfl (by (try simp only [List.map_toArray, List.map_cons, List.map_nil]); first | done | rfl | (simp only [List.length_drop, List.length_take]; rfl)) ?_; (with_reducible refine (lex_hex.calls t117 t121 false _ A5.out).mono ?_); rintro e w' ⟨rfl, ⟨nd, rfl⟩⟩; refine ⟨_, rfl, ?_⟩; (try (rw [drewN_self w12]; generalize hq_ : World.drewN w12 _ = w12; have n0_ : Aside0 (w12.heap[gb115]? = some (.cells #[.int .u64 0, .int .u64 0, .int .u64 0, .int .u64 0] 33 (0, 0))) := ⟨by rw [← hq_]; exact (bkx BK115)⟩; have n1_ : Aside0 (Below w.heap.size w w12) := ⟨by rw [← hq_]; exact (belx1 HB GE115)⟩; clear BK115 HB hq_; have BK115 := n0_; have HB := n1_; clear n0_ n1_))) | ((with_reducible refine gate_callee (f := 53) rfl ?_); refine goesL_ (some 35) rfl rfl Tryd.func53 (by kernel_rfl) rfl #[.int .u8 t119, .int .u8 t121] rfl (by (try simp only [List.map_toArray, List.map_cons, List.map_nil]); first | done | rfl | (simp only [List.length_drop, List.length_take]; rfl)) ?_; (with_reducible refine (class_Of.calls k t119 t121 t123 t124 t125 t126 _ A6.out).mono ?_); rintro e w13 ⟨rfl, hb⟩; refine ⟨_, rfl, ?_⟩; have n0_ := Aside0.mk (blk_below (g := gb115) (o := .cells #[.int .u64 0, .int .u64 0, .int .u64 0, .int .u64 0] 33 (0, 0)) (bkx BK115) hb); have n1_ := Aside0.mk (below_step (belx1 HB GE115) hb); clear BK115; clear HB; have BK115 := n0_; have HB := n1_; clear n0_ n1_; (try clear hb); (try clear hb2); (try clear hk); (try clear hi); obtain ⟨hcz14_0, hcz14_1, hcz14_2, hcz14_3, hfz14_0, hfz14_1, hfz14_2, hfz14_3⟩ := cells4 BK115.out))
  refine bodyPost_ret (results_ct rfl _ _ gb115 33 #[.int .u64 t123, .int .u64 t124, .int .u64 t125, .int .u64 t126] (0, 0) _ rfl (by (with_reducible repeat (first | refine blk_drewN ?_ _ | refine blk_drew ?_ | refine blk_alloc ?_ _)); exact put4h BK115.out) Tryd.underlying33 rfl (by kernel_rfl)) rfl ?_
  exact ⟨by first | rfl | (simp [errW_none, errW_some] <;> rfl) | (simp [*, errW_none, errW_some] <;> rfl), belx1 HB GE115⟩
end Go.Proofs.YtepnbnpgifpfbaaDoor.G
namespace Go.Proofs.YtepnbnpgifpfbaaDoor.G
open Go.RowKit Go.Proofs.YtepnbnpgifpfbaaDoorW.PrintWords Go.Proofs.YtepnbnpgifpfbaaDoorW.PrintLast Go.Proofs.YtepnbnpgifpfbaaDoorW.PrintMore
attribute [local go_sem] max2_int min2_int max_two min_two max_three min_three max_four min_four
set_option linter.unusedVariables false
set_option linter.unusedSimpArgs false
theorem eqA33 (d : Nat) (w : World) (x0 y0 : Int) (x1 y1 : Int) (x2 y2 : Int) (x3 y3 : Int) :
    (Op.equalIn (d + 2) 33 (.agg #[.int .u64 x0, .int .u64 x1, .int .u64 x2, .int .u64 x3]) (.agg #[.int .u64 y0, .int .u64 y1, .int .u64 y2, .int .u64 y3])).run Tryd.prog w = .ok (x0 == y0 && (x1 == y1 && (x2 == y2 && (x3 == y3)))) w := by
  exact eqArr4 Tryd.prog 33 31 (by kernel_rfl) (by kernel_rfl) (by kernel_rfl) (by kernel_rfl) d w x0 y0 x1 y1 x2 y2 x3 y3
theorem eqA35 (d : Nat) (w : World) (x0 y0 : Int) (x1 y1 : Int) (x2 y2 : Int) (x3 y3 : Int) (x4 y4 : Int) (x5 y5 : Int) (x6 y6 : ByteArray) (x7 y7 : Int) (x8 y8 : Int) :
    (Op.equalIn (d + 3) 35 (.agg #[.int .i64 x0, .int .i64 x1, .int .u64 x2, .int .u64 x3, .int .u64 x4, .int .u64 x5, .string x6, .int .i64 x7, .int .i64 x8]) (.agg #[.int .i64 y0, .int .i64 y1, .int .u64 y2, .int .u64 y3, .int .u64 y4, .int .u64 y5, .string y6, .int .i64 y7, .int .i64 y8])).run Tryd.prog w = .ok (x0 == y0 && (x1 == y1 && ((x2 == y2 && (x3 == y3 && (x4 == y4 && (x5 == y5)))) && (x6.toList == y6.toList && (x7 == y7 && (x8 == y8)))))) w := by
  refine eqA_of Tryd.underlying35 (by kernel_rfl) ?_
  refine eqf_cons (by rfl) (by go_simp; rfl) (by go_simp; rfl) (by go_simp) ?_
  refine eqf_cons (by rfl) (by go_simp; rfl) (by go_simp; rfl) (by go_simp) ?_
  refine eqf_cons (by rfl) (by go_simp) (by go_simp) (eqA33 (d + 0) w _ _ _ _ _ _ _ _) ?_
  refine eqf_cons (by rfl) (by go_simp; rfl) (by go_simp; rfl) (by go_simp) ?_
  refine eqf_cons (by rfl) (by go_simp; rfl) (by go_simp; rfl) (by go_simp) ?_
  exact eqf_last (by rfl) (by go_simp; rfl) (by go_simp; rfl) (by go_simp)
end Go.Proofs.YtepnbnpgifpfbaaDoor.G
namespace Go.Proofs.YtepnbnpgifpfbaaDoor.G
open Go.RowKit Go.Proofs.YtepnbnpgifpfbaaDoorW.PrintWords Go.Proofs.YtepnbnpgifpfbaaDoorW.PrintLast Go.Proofs.YtepnbnpgifpfbaaDoorW.PrintMore
attribute [local go_sem] max2_int min2_int max_two min_two max_three min_three max_four min_four
set_option linter.unusedVariables false
set_option linter.unusedSimpArgs false
attribute [local go_sem high] eqA35
def api_Token.l0 : Nat → List (S35) → List (S35) → Int → Int → Option (Bool)
  | 0, _, _, _, _ => none
  | k + 1, x0, x1, x12, x13 => if x13 < x12 then (if 0 ≤ x13 then (if x13 < (x0.length : Int) then (if x13 < (x1.length : Int) then (if (!(((rd_T35 x0 x13).f0) == ((rd_T35 x1 x13).f0)) || (!(((rd_T35 x0 x13).f1) == ((rd_T35 x1 x13).f1)) || ((!(((rd_T35 x0 x13).f2.f0) == ((rd_T35 x1 x13).f2.f0)) || (!(((rd_T35 x0 x13).f2.f1) == ((rd_T35 x1 x13).f2.f1)) || (!(((rd_T35 x0 x13).f2.f2) == ((rd_T35 x1 x13).f2.f2)) || (!(((rd_T35 x0 x13).f2.f3) == ((rd_T35 x1 x13).f2.f3)))))) || (!((((rd_T35 x0 x13).f3).toList) == (((rd_T35 x1 x13).f3).toList)) || (!(((rd_T35 x0 x13).f4) == ((rd_T35 x1 x13).f4)) || (!(((rd_T35 x0 x13).f5) == ((rd_T35 x1 x13).f5)))))))) = true then (some false) else (api_Token.l0 k x0 x1 x12 (wrap64 (x13 + 1)))) else (none)) else (none)) else (none)) else (some true)
def api_Token.f (k : Nat) (l0 : List (S35)) (l1 : List (S35)) : Option (Bool) := if (l0.length : Int) = (l1.length : Int) then (api_Token.l0 k l0 l1 (l0.length : Int) 0) else (some false)
set_option maxHeartbeats 8000000 in
set_option maxRecDepth 100000 in
theorem api_Token.calls (k : Nat) (A0 : Option Addr) (c0 : Nat) (l0 : List (S35)) (A1 : Option Addr) (c1 : Nat) (l1 : List (S35)) (r : Bool) (w : World) (hr0 : Kd.C k35 w A0 l0.length l0) (hc0 : l0.length ≤ c0) (hr1 : Kd.C k35 w A1 l1.length l1) (hc1 : l1.length ≤ c1) (h : api_Token.f k l0 l1 = some r) :
    Calls Tryd.prog 25 #[.slice A0 l0.length c0, .slice A1 l1.length c1] w fun e w' => e = .returned (.bool r) ∧ Drawn0 w w' := by
  have hu35 := Tryd.underlying35
  have HR0 := Aside0.mk hr0
  have HC0 := Aside0.mk hc0
  clear hr0 hc0
  have HR1 := Aside0.mk hr1
  have HC1 := Aside0.mk hc1
  clear hr1 hc1
  have H : (if (l0.length : Int) = (l1.length : Int) then (api_Token.l0 k l0 l1 (l0.length : Int) 0) else (some false)) = some r := h
  clear h
  by_cases c3 : (l0.length : Int) = (l1.length : Int)
  case neg =>
    rw [if_neg c3] at H
    have c3b0 : ((l0.length : Int) == (l1.length : Int)) = false := beq_eq_false_iff_ne.mpr c3
    have c3b1 : ((l0.length : Int) != (l1.length : Int)) = true := bne_iff_ne.mpr c3
    have c3b2 : (l0.length == l1.length) = false := by first | simpa using c3 | (simp at c3 ⊢; omega)
    obtain rfl := Option.some.inj H
    go_enter Tryd.func25, Tryd.ntmps25
    go_wp2
    repeat (go_quiet (fail); try go_wp2)
    go_ret
    exact ⟨by first | rfl | (simp; done) | (simp [*]; done) | (simp [*, IntKind.wrap_i64, wrap64]; done), by repeat (first | exact Drawn0.refl _ | apply Drawn0.step)⟩
  rw [if_pos c3] at H
  have c3b0 : ((l0.length : Int) == (l1.length : Int)) = true := beq_iff_eq.mpr c3
  have c3b1 : ((l0.length : Int) != (l1.length : Int)) = false := bne_eq_false_iff_eq.mpr c3
  have c3b2 : (l0.length == l1.length) = true := by first | simpa using c3 | (simp at c3 ⊢; omega)
  clear c3
  have H' := Aside0.mk H
  clear H
  go_enter Tryd.func25, Tryd.ntmps25
  go_wp2
  repeat (go_quiet (fail); try go_wp2)
  go_loopg [13] k (fun kq v13 w' => ∃ (x13_1 : Int), v13 = .int .i64 x13_1 ∧ Aside0 (api_Token.l0 kq l0 l1 (l0.length : Int) x13_1 = some r) ∧ Aside0 (kq ≤ k) ∧ Drawn0 w w')
  case atStart => exact ⟨(0), (by first | rfl | (simp; done) | (simp [*]; done) | exact congrArg (Value.int .i64) (by unfold wrap64; omega)), (by first | exact H' | (subst_vars; exact H')), ⟨Nat.le_refl _⟩, by repeat (first | exact Drawn0.refl _ | apply Drawn0.step)⟩
  case round =>
    clear H'
    try clear c3; try clear c3b0; try clear c3b1; try clear c3b2
    obtain ⟨x13_1, rfl, HA, HK1, ⟨m1, rfl⟩⟩ := hrel
    cases gk with
    | zero => exact absurd HA.out (by simp [api_Token.l0])
    | succ k1 =>
      have H := HA.out
      clear HA
      simp only [api_Token.l0] at H
      by_cases c4 : x13_1 < (l0.length : Int)
      case neg =>
        rw [if_neg c4] at H
        have c4b0 : decide (x13_1 < (l0.length : Int)) = false := decide_eq_false c4
        clear c4
        obtain rfl := Option.some.inj H
        go_wp2
        repeat (go_quiet (fail); try go_wp2)
        go_ret
        exact ⟨by first | rfl | (simp; done) | (simp [*]; done) | (simp [*, IntKind.wrap_i64, wrap64]; done), by repeat (first | exact Drawn0.refl _ | apply Drawn0.step)⟩
      rw [if_pos c4] at H
      have c4b0 : decide (x13_1 < (l0.length : Int)) = true := decide_eq_true c4
      clear c4
      by_cases c5 : 0 ≤ x13_1
      case neg => rw [if_neg c5] at H; exact absurd H (by simp)
      rw [if_pos c5] at H
      have c5b0 : decide (0 ≤ x13_1) = true := decide_eq_true c5
      clear c5
      by_cases c6 : x13_1 < (l0.length : Int)
      case neg => rw [if_neg c6] at H; exact absurd H (by simp)
      rw [if_pos c6] at H
      have c6b0 : decide (x13_1 < (l0.length : Int)) = true := decide_eq_true c6
      clear c6
      by_cases c7 : x13_1 < (l1.length : Int)
      case neg => rw [if_neg c7] at H; exact absurd H (by simp)
      rw [if_pos c7] at H
      have c7b0 : decide (x13_1 < (l1.length : Int)) = true := decide_eq_true c7
      clear c7
      by_cases c8 : (!(((rd_T35 l0 x13_1).f0) == ((rd_T35 l1 x13_1).f0)) || (!(((rd_T35 l0 x13_1).f1) == ((rd_T35 l1 x13_1).f1)) || ((!(((rd_T35 l0 x13_1).f2.f0) == ((rd_T35 l1 x13_1).f2.f0)) || (!(((rd_T35 l0 x13_1).f2.f1) == ((rd_T35 l1 x13_1).f2.f1)) || (!(((rd_T35 l0 x13_1).f2.f2) == ((rd_T35 l1 x13_1).f2.f2)) || (!(((rd_T35 l0 x13_1).f2.f3) == ((rd_T35 l1 x13_1).f2.f3)))))) || (!((((rd_T35 l0 x13_1).f3).toList) == (((rd_T35 l1 x13_1).f3).toList)) || (!(((rd_T35 l0 x13_1).f4) == ((rd_T35 l1 x13_1).f4)) || (!(((rd_T35 l0 x13_1).f5) == ((rd_T35 l1 x13_1).f5)))))))) = true
      case pos =>
        rw [if_pos c8] at H
        have c8b0 : (!(((rd_T35 l0 x13_1).f0) == ((rd_T35 l1 x13_1).f0)) || (!(((rd_T35 l0 x13_1).f1) == ((rd_T35 l1 x13_1).f1)) || ((!(((rd_T35 l0 x13_1).f2.f0) == ((rd_T35 l1 x13_1).f2.f0)) || (!(((rd_T35 l0 x13_1).f2.f1) == ((rd_T35 l1 x13_1).f2.f1)) || (!(((rd_T35 l0 x13_1).f2.f2) == ((rd_T35 l1 x13_1).f2.f2)) || (!(((rd_T35 l0 x13_1).f2.f3) == ((rd_T35 l1 x13_1).f2.f3)))))) || (!((((rd_T35 l0 x13_1).f3).toList) == (((rd_T35 l1 x13_1).f3).toList)) || (!(((rd_T35 l0 x13_1).f4) == ((rd_T35 l1 x13_1).f4)) || (!(((rd_T35 l0 x13_1).f5) == ((rd_T35 l1 x13_1).f5)))))))) = true := c8
        clear c8
        obtain rfl := Option.some.inj H
        have p185 : 0 ≤ (x13_1 : Int) := odt
        have q185 : x13_1 < (l0.length : Int) := odt
        obtain ⟨ad185, e185, hx185_0, hx185_1, hx185_2, hx185_3, hx185_4, hx185_5, hx185_6, hx185_7, hx185_8⟩ := at_T35 HR0.out x13_1 p185 q185
        cases e185
        replace p185 := eq_true p185
        replace q185 := eq_true q185
        have p186 : 0 ≤ (x13_1 : Int) := odt
        have q186 : x13_1 < (l1.length : Int) := odt
        obtain ⟨ad186, e186, hx186_0, hx186_1, hx186_2, hx186_3, hx186_4, hx186_5, hx186_6, hx186_7, hx186_8⟩ := at_T35 HR1.out x13_1 p186 q186
        cases e186
        replace p186 := eq_true p186
        replace q186 := eq_true q186
        go_wp2
        repeat (go_quiet (fail); try go_wp2)
        go_ret
        exact ⟨by first | rfl | (simp; done) | (simp [*]; done) | (simp [*, IntKind.wrap_i64, wrap64]; done), by repeat (first | exact Drawn0.refl _ | apply Drawn0.step)⟩
      rw [if_neg c8] at H
      have c8b0 : (!(((rd_T35 l0 x13_1).f0) == ((rd_T35 l1 x13_1).f0)) || (!(((rd_T35 l0 x13_1).f1) == ((rd_T35 l1 x13_1).f1)) || ((!(((rd_T35 l0 x13_1).f2.f0) == ((rd_T35 l1 x13_1).f2.f0)) || (!(((rd_T35 l0 x13_1).f2.f1) == ((rd_T35 l1 x13_1).f2.f1)) || (!(((rd_T35 l0 x13_1).f2.f2) == ((rd_T35 l1 x13_1).f2.f2)) || (!(((rd_T35 l0 x13_1).f2.f3) == ((rd_T35 l1 x13_1).f2.f3)))))) || (!((((rd_T35 l0 x13_1).f3).toList) == (((rd_T35 l1 x13_1).f3).toList)) || (!(((rd_T35 l0 x13_1).f4) == ((rd_T35 l1 x13_1).f4)) || (!(((rd_T35 l0 x13_1).f5) == ((rd_T35 l1 x13_1).f5)))))))) = false := by simpa using c8
      clear c8
      have H' := Aside0.mk H
      clear H
      have p185 : 0 ≤ (x13_1 : Int) := odt
      have q185 : x13_1 < (l0.length : Int) := odt
      obtain ⟨ad185, e185, hx185_0, hx185_1, hx185_2, hx185_3, hx185_4, hx185_5, hx185_6, hx185_7, hx185_8⟩ := at_T35 HR0.out x13_1 p185 q185
      cases e185
      replace p185 := eq_true p185
      replace q185 := eq_true q185
      have p186 : 0 ≤ (x13_1 : Int) := odt
      have q186 : x13_1 < (l1.length : Int) := odt
      obtain ⟨ad186, e186, hx186_0, hx186_1, hx186_2, hx186_3, hx186_4, hx186_5, hx186_6, hx186_7, hx186_8⟩ := at_T35 HR1.out x13_1 p186 q186
      cases e186
      replace p186 := eq_true p186
      replace q186 := eq_true q186
      go_wp2
      repeat (go_quiet (fail); try go_wp2)
      go_roundg k1
      case measure => have := HK1.out; omega
      case rel => exact ⟨(wrap64 (x13_1 + 1)), (by first | rfl | (simp; done) | (simp [*]; done) | exact congrArg (Value.int .i64) (by unfold wrap64; omega)), (by first | exact H' | (subst_vars; exact H')), ⟨by have := HK1.out; omega⟩, by repeat (first | exact Drawn0.refl _ | apply Drawn0.step)⟩
end Go.Proofs.YtepnbnpgifpfbaaDoor.G
namespace Go.Proofs.YtepnbnpgifpfbaaDoor.G
open Go.RowKit Go.Proofs.YtepnbnpgifpfbaaDoorW.PrintWords Go.Proofs.YtepnbnpgifpfbaaDoorW.PrintLast Go.Proofs.YtepnbnpgifpfbaaDoorW.PrintMore
attribute [local go_sem] max2_int min2_int max_two min_two max_three min_three max_four min_four
set_option linter.unusedVariables false
set_option linter.unusedSimpArgs false
def lex_Same.f (k : Nat) (l0 : List (S35)) (l1 : List (S35)) : Option (Bool) := (api_Token.f k l0 l1).bind fun t187 => (some t187)
set_option maxHeartbeats 8000000 in
set_option maxRecDepth 100000 in
theorem lex_Same.calls (k : Nat) (A0 : Option Addr) (c0 : Nat) (l0 : List (S35)) (A1 : Option Addr) (c1 : Nat) (l1 : List (S35)) (r : Bool) (w : World) (hr0 : Kd.C k35 w A0 l0.length l0) (hc0 : l0.length ≤ c0) (hr1 : Kd.C k35 w A1 l1.length l1) (hc1 : l1.length ≤ c1) (h : lex_Same.f k l0 l1 = some r) :
    Calls Tryd.prog 16 #[.slice A0 l0.length c0, .slice A1 l1.length c1] w fun e w' => e = .returned (.bool r) ∧ Drawn0 w w' := by
  have HR0 := Aside0.mk hr0
  have HC0 := Aside0.mk hc0
  clear hr0 hc0
  have HR1 := Aside0.mk hr1
  have HC1 := Aside0.mk hc1
  clear hr1 hc1
  have H : ((api_Token.f k l0 l1).bind fun t187 => (some t187)) = some r := h
  clear h
  replace H := Option.bind_eq_some_iff.mp H
  obtain ⟨t187, A30, H⟩ := H
  replace H : (some t187) = some r := H
  have A3 := Aside0.mk A30
  clear A30
  obtain rfl := Option.some.inj H
  go_enter Tryd.func16, Tryd.ntmps16
  go_wp2_with (first | ((with_reducible refine gate_callee (f := 25) rfl ?_); refine goesL_ (some 7) rfl rfl Tryd.func25 (by kernel_rfl) rfl #[.slice A0 l0.length c0, .slice A1 l1.length c1] rfl (by (try simp only [List.map_toArray, List.map_cons, List.map_nil]); first | done | rfl | (simp only [List.length_drop, List.length_take]; rfl)) ?_; (with_reducible refine (api_Token.calls k _ _ l0 _ _ l1 t187 _ ?side1 ?side2 ?side3 ?side4 A3.out).mono ?_); (case side1 => repeat (first | exact HR0.out | (with_reducible refine Kd.C_alloc ?_ _) | (with_reducible refine Kd.C_drewN ?_ _) | (with_reducible refine Kd.C_drew ?_))); (case side2 => exact HC0.out); (case side3 => repeat (first | exact HR1.out | (with_reducible refine Kd.C_alloc ?_ _) | (with_reducible refine Kd.C_drewN ?_ _) | (with_reducible refine Kd.C_drew ?_))); (case side4 => exact HC1.out); rintro e w' ⟨rfl, ⟨nd, rfl⟩⟩; refine ⟨_, rfl, ?_⟩))
  go_ret
  exact ⟨by first | rfl | (simp; done) | (simp [*]; done) | (simp [*, IntKind.wrap_i64, wrap64]; done), by repeat (first | exact Drawn0.refl _ | apply Drawn0.step)⟩
end Go.Proofs.YtepnbnpgifpfbaaDoor.G
namespace Go.Proofs.YtepnbnpgifpfbaaDoor.G
open Go.RowKit Go.Proofs.YtepnbnpgifpfbaaDoorW.PrintWords
def half (z : Int) : Int := IntKind.u64.wrap (z.tdiv 2)
def halves : Nat → Int → Int
  | 0, z => z
  | k + 1, z => half (halves k z)
def bitAt (z : Int) (k : Nat) : Bool := (halves k z).tmod 2 == 1
set_option maxHeartbeats 400000 in
theorem has_q0 (x0 x1 x2 x3 : Int) (c : Nat) (hc : (c : Int) / 64 = 0) (h1 : (c : Int) ≤ 255) (w : World) :
    Calls Tryd.prog 20 #[.agg #[.int .u64 x0, .int .u64 x1, .int .u64 x2, .int .u64 x3], .int .u8 c] w fun e w' => e = .returned (.bool (bitAt x0 (c % 64))) ∧ Below w.heap.size w w' := by
  go_enter Tryd.func20, Tryd.ntmps20
  go_wp2
  go_loop [5, 6] (fun v i => ∃ k : Nat, k ≤ c % 64 ∧ i = .int .i64 k ∧ v = .int .u64 (halves k x0)) (fun _ i => c % 64 - (intOf i).toNat)
  case atStart => exact ⟨0, by omega, rfl, rfl⟩
  case round =>
    obtain ⟨k, hk, rfl, rfl⟩ := hrel
    by_cases hlt : (k : Int) < c % 64
    · go_wp2
      exact ⟨⟨k + 1, by omega, by go_num, rfl⟩, by simp [intOf]; omega⟩
    · go_wp2
      go_ret
      obtain rfl : k = c % 64 := by omega
      exact ⟨rfl, below_alloc (Below.refl _ _) _⟩
set_option maxHeartbeats 400000 in
theorem has_q1 (x0 x1 x2 x3 : Int) (c : Nat) (hc : (c : Int) / 64 = 1) (h1 : (c : Int) ≤ 255) (w : World) :
    Calls Tryd.prog 20 #[.agg #[.int .u64 x0, .int .u64 x1, .int .u64 x2, .int .u64 x3], .int .u8 c] w fun e w' => e = .returned (.bool (bitAt x1 (c % 64))) ∧ Below w.heap.size w w' := by
  go_enter Tryd.func20, Tryd.ntmps20
  go_wp2
  go_loop [5, 6] (fun v i => ∃ k : Nat, k ≤ c % 64 ∧ i = .int .i64 k ∧ v = .int .u64 (halves k x1)) (fun _ i => c % 64 - (intOf i).toNat)
  case atStart => exact ⟨0, by omega, rfl, rfl⟩
  case round =>
    obtain ⟨k, hk, rfl, rfl⟩ := hrel
    by_cases hlt : (k : Int) < c % 64
    · go_wp2
      exact ⟨⟨k + 1, by omega, by go_num, rfl⟩, by simp [intOf]; omega⟩
    · go_wp2
      go_ret
      obtain rfl : k = c % 64 := by omega
      exact ⟨rfl, below_alloc (Below.refl _ _) _⟩
set_option maxHeartbeats 400000 in
theorem has_q2 (x0 x1 x2 x3 : Int) (c : Nat) (hc : (c : Int) / 64 = 2) (h1 : (c : Int) ≤ 255) (w : World) :
    Calls Tryd.prog 20 #[.agg #[.int .u64 x0, .int .u64 x1, .int .u64 x2, .int .u64 x3], .int .u8 c] w fun e w' => e = .returned (.bool (bitAt x2 (c % 64))) ∧ Below w.heap.size w w' := by
  go_enter Tryd.func20, Tryd.ntmps20
  go_wp2
  go_loop [5, 6] (fun v i => ∃ k : Nat, k ≤ c % 64 ∧ i = .int .i64 k ∧ v = .int .u64 (halves k x2)) (fun _ i => c % 64 - (intOf i).toNat)
  case atStart => exact ⟨0, by omega, rfl, rfl⟩
  case round =>
    obtain ⟨k, hk, rfl, rfl⟩ := hrel
    by_cases hlt : (k : Int) < c % 64
    · go_wp2
      exact ⟨⟨k + 1, by omega, by go_num, rfl⟩, by simp [intOf]; omega⟩
    · go_wp2
      go_ret
      obtain rfl : k = c % 64 := by omega
      exact ⟨rfl, below_alloc (Below.refl _ _) _⟩
set_option maxHeartbeats 400000 in
theorem has_q3 (x0 x1 x2 x3 : Int) (c : Nat) (hc : (c : Int) / 64 = 3) (h1 : (c : Int) ≤ 255) (w : World) :
    Calls Tryd.prog 20 #[.agg #[.int .u64 x0, .int .u64 x1, .int .u64 x2, .int .u64 x3], .int .u8 c] w fun e w' => e = .returned (.bool (bitAt x3 (c % 64))) ∧ Below w.heap.size w w' := by
  go_enter Tryd.func20, Tryd.ntmps20
  go_wp2
  go_loop [5, 6] (fun v i => ∃ k : Nat, k ≤ c % 64 ∧ i = .int .i64 k ∧ v = .int .u64 (halves k x3)) (fun _ i => c % 64 - (intOf i).toNat)
  case atStart => exact ⟨0, by omega, rfl, rfl⟩
  case round =>
    obtain ⟨k, hk, rfl, rfl⟩ := hrel
    by_cases hlt : (k : Int) < c % 64
    · go_wp2
      exact ⟨⟨k + 1, by omega, by go_num, rfl⟩, by simp [intOf]; omega⟩
    · go_wp2
      go_ret
      obtain rfl : k = c % 64 := by omega
      exact ⟨rfl, below_alloc (Below.refl _ _) _⟩
def scantlingref01_Has.f (a0 a1 a2 a3 : Int) (c : Int) : Option Bool :=
  if 0 ≤ c ∧ c ≤ 255 then some (bitAt (if c.toNat / 64 = 0 then a0 else if c.toNat / 64 = 1 then a1 else if c.toNat / 64 = 2 then a2 else a3) (c.toNat % 64)) else none
theorem scantlingref01_Has.calls (a0 a1 a2 a3 : Int) (c : Int) (r : Bool) (w : World) (h : scantlingref01_Has.f a0 a1 a2 a3 c = some r) :
    Calls Tryd.prog 20 #[.agg #[.int .u64 a0, .int .u64 a1, .int .u64 a2, .int .u64 a3], .int .u8 c] w fun e w' => e = .returned (.bool r) ∧ Below w.heap.size w w' := by
  unfold scantlingref01_Has.f at h
  split at h
  case isFalse => cases h
  case isTrue hc =>
    obtain ⟨n, rfl⟩ := Int.eq_ofNat_of_zero_le hc.1
    have h' := Option.some.inj h
    subst h'
    rw [Int.toNat_natCast]
    obtain hq | hq | hq | hq : n / 64 = 0 ∨ n / 64 = 1 ∨ n / 64 = 2 ∨ n / 64 = 3 := by omega
    · have := has_q0 a0 a1 a2 a3 n (by omega) (by omega) w; simpa [hq] using this
    · have := has_q1 a0 a1 a2 a3 n (by omega) (by omega) w; simpa [hq] using this
    · have := has_q2 a0 a1 a2 a3 n (by omega) (by omega) w; simpa [hq] using this
    · have := has_q3 a0 a1 a2 a3 n (by omega) (by omega) w; simpa [hq] using this
def bitk : Nat → Int
  | 0 => 1
  | k + 1 => IntKind.u64.wrap (bitk k * 2)
def accw (l : List Bool) (off : Nat) : Nat → Int
  | 0 => 0
  | k + 1 => if l.getD (off + k) false = true then IntKind.u64.wrap (accw l off k + bitk k) else accw l off k
def scantlingref01_Of.f (l0 : List Bool) : Option (Int × Int × Int × Int) :=
  if 256 ≤ l0.length then some (accw l0 0 64, accw l0 64 64, accw l0 128 64, accw l0 192 64) else none
set_option maxRecDepth 100000 in
set_option maxHeartbeats 2000000 in
theorem of_any (l0 : List Bool) (hl : 256 ≤ l0.length) (ad : Addr) (c0 : Nat) (hc0 : l0.length ≤ c0) (hmax : l0.length ≤ 9223372036854775807) (w : World) (hcell : ∀ j, j < l0.length → w.cell? (ad.add j) = some (.bool (l0.getD j false))) :
    Calls Tryd.prog 26 #[.slice (some ad) l0.length c0] w fun e w' => e = .returned (.agg #[.int .u64 (accw l0 0 64), .int .u64 (accw l0 64 64), .int .u64 (accw l0 128 64), .int .u64 (accw l0 192 64)]) ∧ Below w.heap.size w w' := by
  have hb : ∀ j, j < l0.length → ∀ A B, ((w.alloc A).alloc B).cell? (ad.add j) = some (.bool (l0.getD j false)) := fun j hj A B => pw_cell_below (below_alloc (below_alloc (Below.refl _ _) _) _) (hcell j hj)
  clear hcell
  have HB := Aside0.mk hb
  clear hb
  go_enter Tryd.func26, Tryd.ntmps26
  go_wp2
  refine wp_loop_rounds 5 ?_
  rw [rounds_succ]
  go_wp2
  go_loopw [5, 6] (fun v i wr => ∃ k : Nat, k ≤ 64 ∧ i = .int .i64 k ∧ v = .int .u64 (bitk k) ∧ wr = (w.alloc (.cells #[.int .u64 0, .int .u64 0, .int .u64 0, .int .u64 0] 33)).alloc (.cells #[.int .u64 (accw l0 0 k), .int .u64 0, .int .u64 0, .int .u64 0] 33)) (fun _ i _ => 64 - (intOf i).toNat)
  case atStart => exact ⟨0, by omega, rfl, rfl, rfl⟩
  case round =>
    obtain ⟨k, hk, rfl, rfl, rfl⟩ := hrel
    by_cases hlt : k < 64
    · have hx := HB.out (k) (by omega)
      have hj : ((k : Int)).toNat = k := by omega
      cases hv : l0.getD (k) false with
      | true =>
        rw [hv] at hx
        have Hs : Aside0 (accw l0 0 (k + 1) = IntKind.u64.wrap (accw l0 0 k + bitk k)) := ⟨by simp only [accw]; rw [if_pos]; simpa using hv⟩
        clear hv
        go_wp2
        exact ⟨⟨k + 1, by omega, by go_num, rfl, by rw [Hs.out]⟩, by simp [intOf]; omega⟩
      | false =>
        rw [hv] at hx
        have Hs : Aside0 (accw l0 0 (k + 1) = accw l0 0 k) := ⟨by simp only [accw]; rw [if_neg]; simpa using hv⟩
        clear hv
        go_wp2
        exact ⟨⟨k + 1, by omega, by go_num, rfl, by rw [Hs.out]⟩, by simp [intOf]; omega⟩
    · obtain rfl : k = 64 := by omega
      clear hk hlt
      go_wp2
      rw [rounds_succ]
      go_wp2
      go_loopw [5, 6] (fun v i wr => ∃ k : Nat, k ≤ 64 ∧ i = .int .i64 k ∧ v = .int .u64 (bitk k) ∧ wr = (w.alloc (.cells #[.int .u64 0, .int .u64 0, .int .u64 0, .int .u64 0] 33)).alloc (.cells #[.int .u64 (accw l0 0 64), .int .u64 (accw l0 64 k), .int .u64 0, .int .u64 0] 33)) (fun _ i _ => 64 - (intOf i).toNat)
      case atStart => exact ⟨0, by omega, rfl, rfl, rfl⟩
      case round =>
        obtain ⟨k, hk, rfl, rfl, rfl⟩ := hrel
        by_cases hlt : k < 64
        · have hx := HB.out (64 + k) (by omega)
          have hj : ((64 : Int) + (k : Int)).toNat = 64 + k := by omega
          cases hv : l0.getD (64 + k) false with
          | true =>
            rw [hv] at hx
            have Hs : Aside0 (accw l0 64 (k + 1) = IntKind.u64.wrap (accw l0 64 k + bitk k)) := ⟨by simp only [accw]; rw [if_pos]; simpa using hv⟩
            clear hv
            go_wp2
            exact ⟨⟨k + 1, by omega, by go_num, rfl, by rw [Hs.out]⟩, by simp [intOf]; omega⟩
          | false =>
            rw [hv] at hx
            have Hs : Aside0 (accw l0 64 (k + 1) = accw l0 64 k) := ⟨by simp only [accw]; rw [if_neg]; simpa using hv⟩
            clear hv
            go_wp2
            exact ⟨⟨k + 1, by omega, by go_num, rfl, by rw [Hs.out]⟩, by simp [intOf]; omega⟩
        · obtain rfl : k = 64 := by omega
          clear hk hlt
          go_wp2
          rw [rounds_succ]
          go_wp2
          go_loopw [5, 6] (fun v i wr => ∃ k : Nat, k ≤ 64 ∧ i = .int .i64 k ∧ v = .int .u64 (bitk k) ∧ wr = (w.alloc (.cells #[.int .u64 0, .int .u64 0, .int .u64 0, .int .u64 0] 33)).alloc (.cells #[.int .u64 (accw l0 0 64), .int .u64 (accw l0 64 64), .int .u64 (accw l0 128 k), .int .u64 0] 33)) (fun _ i _ => 64 - (intOf i).toNat)
          case atStart => exact ⟨0, by omega, rfl, rfl, rfl⟩
          case round =>
            obtain ⟨k, hk, rfl, rfl, rfl⟩ := hrel
            by_cases hlt : k < 64
            · have hx := HB.out (128 + k) (by omega)
              have hj : ((128 : Int) + (k : Int)).toNat = 128 + k := by omega
              cases hv : l0.getD (128 + k) false with
              | true =>
                rw [hv] at hx
                have Hs : Aside0 (accw l0 128 (k + 1) = IntKind.u64.wrap (accw l0 128 k + bitk k)) := ⟨by simp only [accw]; rw [if_pos]; simpa using hv⟩
                clear hv
                go_wp2
                exact ⟨⟨k + 1, by omega, by go_num, rfl, by rw [Hs.out]⟩, by simp [intOf]; omega⟩
              | false =>
                rw [hv] at hx
                have Hs : Aside0 (accw l0 128 (k + 1) = accw l0 128 k) := ⟨by simp only [accw]; rw [if_neg]; simpa using hv⟩
                clear hv
                go_wp2
                exact ⟨⟨k + 1, by omega, by go_num, rfl, by rw [Hs.out]⟩, by simp [intOf]; omega⟩
            · obtain rfl : k = 64 := by omega
              clear hk hlt
              go_wp2
              rw [rounds_succ]
              go_wp2
              go_loopw [5, 6] (fun v i wr => ∃ k : Nat, k ≤ 64 ∧ i = .int .i64 k ∧ v = .int .u64 (bitk k) ∧ wr = (w.alloc (.cells #[.int .u64 0, .int .u64 0, .int .u64 0, .int .u64 0] 33)).alloc (.cells #[.int .u64 (accw l0 0 64), .int .u64 (accw l0 64 64), .int .u64 (accw l0 128 64), .int .u64 (accw l0 192 k)] 33)) (fun _ i _ => 64 - (intOf i).toNat)
              case atStart => exact ⟨0, by omega, rfl, rfl, rfl⟩
              case round =>
                obtain ⟨k, hk, rfl, rfl, rfl⟩ := hrel
                by_cases hlt : k < 64
                · have hx := HB.out (192 + k) (by omega)
                  have hj : ((192 : Int) + (k : Int)).toNat = 192 + k := by omega
                  cases hv : l0.getD (192 + k) false with
                  | true =>
                    rw [hv] at hx
                    have Hs : Aside0 (accw l0 192 (k + 1) = IntKind.u64.wrap (accw l0 192 k + bitk k)) := ⟨by simp only [accw]; rw [if_pos]; simpa using hv⟩
                    clear hv
                    go_wp2
                    exact ⟨⟨k + 1, by omega, by go_num, rfl, by rw [Hs.out]⟩, by simp [intOf]; omega⟩
                  | false =>
                    rw [hv] at hx
                    have Hs : Aside0 (accw l0 192 (k + 1) = accw l0 192 k) := ⟨by simp only [accw]; rw [if_neg]; simpa using hv⟩
                    clear hv
                    go_wp2
                    exact ⟨⟨k + 1, by omega, by go_num, rfl, by rw [Hs.out]⟩, by simp [intOf]; omega⟩
                · obtain rfl : k = 64 := by omega
                  clear hk hlt
                  go_wp2
                  rw [rounds_succ]
                  go_wp2
                  exact bodyPost_ret (v := .agg #[.int .u64 (accw l0 0 64), .int .u64 (accw l0 64 64), .int .u64 (accw l0 128 64), .int .u64 (accw l0 192 64)]) (by simp [results, Tryd.results26, go_sem]) rfl ⟨rfl, by repeat (first | exact Below.refl _ _ | apply below_alloc)⟩
theorem scantlingref01_Of.calls (A0 : Option Addr) (c0 : Nat) (l0 : List Bool) (r1 r2 r3 r4 : Int) (w : World) (hr0 : Kd.C Kd.bool w A0 l0.length l0) (hc0 : l0.length ≤ c0) (h : scantlingref01_Of.f l0 = some (r1, r2, r3, r4)) :
    Calls Tryd.prog 26 #[.slice A0 l0.length c0] w fun e w' => e = .returned (.agg #[.int .u64 r1, .int .u64 r2, .int .u64 r3, .int .u64 r4]) ∧ Below w.heap.size w w' := by
  unfold scantlingref01_Of.f at h
  split at h
  case isFalse => cases h
  case isTrue hl =>
    have h' := Option.some.inj h
    simp only [Prod.mk.injEq] at h'
    obtain ⟨rfl, rfl, rfl, rfl⟩ := h'
    obtain ⟨ad, _, rfl, _, _, _⟩ := Kd.C_get hr0 false 0 (by omega) (by omega)
    refine of_any l0 hl ad c0 hc0 (Kd.C_max hr0) w (fun j hj => ?_)
    obtain ⟨ad', cs, e, _, hK, hcell⟩ := Kd.C_get hr0 false (j : Int) (by omega) (by omega)
    obtain rfl : ad = ad' := by injection e
    have hK' : cs = [.bool (l0.getD j false)] := by rw [Int.toNat_natCast] at hK; exact hK
    subst hK'
    have := hcell 0 _ rfl
    simpa [Kd.bool, Kd.scalar] using this
end Go.Proofs.YtepnbnpgifpfbaaDoor.G
