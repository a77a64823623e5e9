/- PlaceKnown returns true: the law's pure statement, by reckoning; no condition. -/
import Derived.Test.YtagjfnjfhflahaaPxdragomanlaw2PlaceKnown
namespace Go.Proofs.Ytagjfnjfhflahaa.Pure
open Go.RowKit Go.Proofs.Ytagjfnjfhflahaa.P Go.Proofs.YtagjfnjfhflahaaW.PrintWords Go.Proofs.YtagjfnjfhflahaaW.PrintLast

theorem PlaceKnown : dragomanlaw2_PlaceKnown.Pure := ⟨10, by decide +kernel⟩

end Go.Proofs.Ytagjfnjfhflahaa.Pure
