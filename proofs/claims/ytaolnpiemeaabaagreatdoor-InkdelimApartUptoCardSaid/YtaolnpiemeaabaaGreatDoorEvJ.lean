/- The reference's Step at any event. -/
import Derived.Test.YtaolnpiemeaabaaGreatDoorEvJ2
namespace Go.Proofs.YtaolnpiemeaabaaGreatDoor
open Go.RowKit Ev5

theorem refStep_any (w : World) (v : Value) (had : List GoEv) (hin : EvIn w v had) (x : GoEv) (hx : EvOK x) :
    Calls Tryz.prog 69 #[v, evV x] w fun e w' => e = .returned (.int .i64 (refStepP RP (had.map GoEv.ev) x.ev)) ∧ Below w.heap.size w w' := by
  by_cases h : x.k = 8 ∨ x.k = 11
  · exact refStep_ka w v had hin x hx h
  · exact refStep_no w v had hin x hx h
end Go.Proofs.YtaolnpiemeaabaaGreatDoor
