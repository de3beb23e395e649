/- Lemmas and walks of this claim: PLexReads. -/
import Derived.Test.YtepnbnpgifpfbaaDoorZGScantlinglaw03LexReads
import Derived.Test.YtepnbnpgifpfbaaDoorZPbLexReads
set_option linter.unusedVariables false
set_option linter.unusedSimpArgs false
namespace Go.Proofs.YtepnbnpgifpfbaaDoor.G
open Go.RowKit Go.Proofs.YtepnbnpgifpfbaaDoorW.PrintWords Go.Proofs.YtepnbnpgifpfbaaDoorW.PrintMore
theorem awake_true : scantlinglaw03_awake.f = some true := by kernel_rfl
theorem LexReads : scantlinglaw03_LexReads.Pure := by
  intro s hs
  refine Ev.rounds (g := fun k => scantlinglaw03_LexReads.f k s) ?_
  unfold scantlinglaw03_LexReads.f
  simp only [awake_true, Option.bind_some, if_true]
  by_cases hb : s.size ≤ 3000
  · have hd : decide ((s.size : Int) > 3000) = false := decide_eq_false (by omega)
    simp only [hd]
    refine Ev.step (f := fun k => (lex_Read.f k s).bind fun bt283 => ((scantlingref03_Read.f k s).bind fun bt288 => ((scantlingref03_Same.f k bt283.1 bt288.1).bind fun t293 => (if t293 = true then (if bt283.2.1 = bt288.2.1 then (if bt283.2.2 = bt288.2.2 then ((lex_Utf8.f s).bind fun t294 => ((scantlingref03_Utf8.f k s).bind fun t295 => (if (t294 == t295) = true then ((lex_Same.f k bt283.1 bt288.1).bind fun t296 => (some t296)) else (some false)))) else (some false)) else (some false)) else (some false))))) (fun k => by rw [scantlinglaw03_LexReads.j0, if_neg (by decide)]) ?_
    have hlen := readA_len (bs s)
    rw [bs_len] at hlen
    refine Ev.bind (read_eq s hb) (Ev.bind (readref_eq s hb) (Ev.bind (same_ref _ (by omega)) ?_))
    simp only [if_true]
    have hu : lex_Utf8.f s = some (utf8From s s.size 0) := rfl
    simp only [hu, Option.bind_some]
    refine Ev.bind (utf8_same s hs) ?_
    simp only [beq_self_eq_true, if_true]
    exact Ev.bind (same_lex _ (by omega)) (Ev.now _)
  · have hd : decide ((s.size : Int) > 3000) = true := decide_eq_true (by omega)
    simp only [hd]
    refine Ev.step (f := fun _ => some true) (fun k => ?_) (Ev.now _)
    rw [scantlinglaw03_LexReads.j0, if_pos rfl, awake_true]
    rfl
end Go.Proofs.YtepnbnpgifpfbaaDoor.G
