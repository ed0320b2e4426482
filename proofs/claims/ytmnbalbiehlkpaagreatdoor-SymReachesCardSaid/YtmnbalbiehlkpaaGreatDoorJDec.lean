/- The layer slot: Decode of the program. -/
import Derived.Test.YtmnbalbiehlkpaaGreatDoorJMemA
import Derived.Test.YtmnbalbiehlkpaaGreatDoorJRulG
import Derived.Deep.QuietTactic
import Derived.BigQuiet
import Derived.StillTailTactics
set_option linter.unusedVariables false
set_option linter.unusedSimpArgs false
namespace Go.Proofs.YtmnbalbiehlkpaaGreatDoor
open Go.RowKit

theorem results_row_tmp2 {P : Program} {fn : Func} {p u v : Tmp} {ty : TypeId} (cs : Array Value) (h : fn.results = #[.cell p ty, .tmp u, .tmp v]) (tmps : Array Value) (w : World) (g : Nat) (t : TypeId) (d : TypeDesc)
  (hp : tmps.getD p undef = .pointer (some ⟨g, 0, none⟩)) (hg : ∃ l, RowV w g t l ∧ l.toArray = cs)
  (hu : P.underlying ty = some d) (hd : (match d with | .struct _ | .array _ _ => true | _ => false) = true) (hi : (P.info? ty).map (·.size) = some cs.size) :
  (results fn tmps).run P w = .ok (.tuple #[.agg cs, tmps.getD u undef, tmps.getD v undef]) w := by
 obtain ⟨l, hg, rfl⟩ := hg
 have hl := run_loadVar_row w g t ty l.toArray (0, 0) d hg hu hd hi
 have h1 : tmps[p]?.getD undef = .pointer (some ⟨g, 0, none⟩) := by simpa using hp
 simp [results, h, h1, asAddr, hl]
end Go.Proofs.YtmnbalbiehlkpaaGreatDoor
