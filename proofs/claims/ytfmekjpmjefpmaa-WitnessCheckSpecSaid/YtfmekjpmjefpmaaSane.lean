/- The examples of the law's sane: what they come to. -/
import Derived.Test.YtfmekjpmjefpmaaWv
namespace Go.Proofs.Ytfmekjpmjefpmaa
open Go Go.RowKit

def qEqual : Race := ⟨2, 1, [3, 5], [4, 4], [], 0, 1⟩
def qSecond : Race := ⟨2, 1, [3, 5], [4, 4], [], 0, 2⟩
def qAhead : Race := ⟨2, 1, [1, 2, 3], [10, 4, 0], [⟨1, 2⟩], 0, 1⟩
def qThree : Race := ⟨3, 1, [1, 2, 3], [10, 4, 0], [⟨1, 2⟩], 0, 1⟩
def cOne : Cut := ⟨[1], [1], [0]⟩
def qZero : Race := ⟨0, 0, [], [], [], 0, 0⟩
theorem e1 : reachedOf qEqual [] = 0 := by decide +kernel
theorem e2 : missedOf qEqual [] = 0 := by decide +kernel
theorem e3 : reachedOf qSecond [] = 0 := by decide +kernel
theorem e4 : missedOf qSecond [] = 290 := by decide +kernel
theorem e5 : reachedOf qAhead [] = 1 := by decide +kernel
theorem e6 : cutOf qAhead true cOne = 0 := by decide +kernel
theorem e7 : cutOf qThree true cOne = 290 := by decide +kernel
theorem e8 : checkOf qZero ⟨0, [], [], []⟩ = 280 := by decide +kernel
theorem e9 : checkOf qAhead ⟨0, [], [], []⟩ = 290 := by decide +kernel
theorem e10 : checkOf qSecond ⟨1, [], [], []⟩ = 0 := by decide +kernel
end Go.Proofs.Ytfmekjpmjefpmaa
