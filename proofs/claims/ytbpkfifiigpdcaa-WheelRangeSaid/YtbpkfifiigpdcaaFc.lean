import Derived.Test.YtbpkfifiigpdcaaSk18
import Derived.Test.YtbpkfifiigpdcaaProg
/-! Closed facts on the types of the program. -/
namespace Go.Proofs.Ytbpkfifiigpdcaa
open Go Go.Proofs.Ytbpkfifiigpdcaa.Sk
theorem ag101 : aggB Try.prog 101 3 = true := by kernel_rfl
theorem ag49 : aggB Try.prog 49 3 = true := by kernel_rfl
theorem ag62 : aggB Try.prog 62 3 = true := by kernel_rfl
theorem ag79 : aggB Try.prog 79 3 = true := by kernel_rfl
theorem ag89 : aggB Try.prog 89 3 = true := by kernel_rfl
theorem el101 : elemB Try.prog 101 3 32 = true := by kernel_rfl
theorem el22 : elemB Try.prog 22 1 24 = true := by kernel_rfl
theorem el3 : elemB Try.prog 3 1 8 = true := by kernel_rfl
theorem el62 : elemB Try.prog 62 3 24 = true := by kernel_rfl
theorem el77 : elemB Try.prog 77 1 24 = true := by kernel_rfl
theorem el79 : elemB Try.prog 79 3 40 = true := by kernel_rfl
theorem el87 : elemB Try.prog 87 1 24 = true := by kernel_rfl
theorem el89 : elemB Try.prog 89 3 24 = true := by kernel_rfl
theorem el9 : elemB Try.prog 9 1 16 = true := by kernel_rfl
theorem el99 : elemB Try.prog 99 1 24 = true := by kernel_rfl
theorem fd101_0 : fieldB Try.prog 101 0 0 = true := by kernel_rfl
theorem fd101_1 : fieldB Try.prog 101 1 1 = true := by kernel_rfl
theorem fd101_2 : fieldB Try.prog 101 2 2 = true := by kernel_rfl
theorem fd47_0 : fieldB Try.prog 47 0 0 = true := by kernel_rfl
theorem fd47_1 : fieldB Try.prog 47 1 1 = true := by kernel_rfl
theorem fd49_0 : fieldB Try.prog 49 0 0 = true := by kernel_rfl
theorem fd49_1 : fieldB Try.prog 49 1 1 = true := by kernel_rfl
theorem fd49_2 : fieldB Try.prog 49 2 2 = true := by kernel_rfl
theorem fd53_0 : fieldB Try.prog 53 0 0 = true := by kernel_rfl
theorem fd53_1 : fieldB Try.prog 53 1 1 = true := by kernel_rfl
theorem fd53_2 : fieldB Try.prog 53 2 2 = true := by kernel_rfl
theorem fd62_0 : fieldB Try.prog 62 0 0 = true := by kernel_rfl
theorem fd62_1 : fieldB Try.prog 62 1 1 = true := by kernel_rfl
theorem fd62_2 : fieldB Try.prog 62 2 2 = true := by kernel_rfl
theorem fd76_0 : fieldB Try.prog 76 0 0 = true := by kernel_rfl
theorem fd76_1 : fieldB Try.prog 76 1 1 = true := by kernel_rfl
theorem fd76_2 : fieldB Try.prog 76 2 2 = true := by kernel_rfl
theorem fd76_3 : fieldB Try.prog 76 3 3 = true := by kernel_rfl
theorem fd79_0 : fieldB Try.prog 79 0 0 = true := by kernel_rfl
theorem fd79_1 : fieldB Try.prog 79 1 1 = true := by kernel_rfl
theorem fd79_2 : fieldB Try.prog 79 2 2 = true := by kernel_rfl
theorem fd86_0 : fieldB Try.prog 86 0 0 = true := by kernel_rfl
theorem fd86_1 : fieldB Try.prog 86 1 1 = true := by kernel_rfl
theorem fd86_2 : fieldB Try.prog 86 2 2 = true := by kernel_rfl
theorem fd86_3 : fieldB Try.prog 86 3 3 = true := by kernel_rfl
theorem fd89_0 : fieldB Try.prog 89 0 0 = true := by kernel_rfl
theorem fd89_1 : fieldB Try.prog 89 1 1 = true := by kernel_rfl
theorem fd89_2 : fieldB Try.prog 89 2 2 = true := by kernel_rfl
theorem fd98_0 : fieldB Try.prog 98 0 0 = true := by kernel_rfl
theorem fd98_1 : fieldB Try.prog 98 1 1 = true := by kernel_rfl
theorem fd98_2 : fieldB Try.prog 98 2 2 = true := by kernel_rfl
theorem fd98_3 : fieldB Try.prog 98 3 3 = true := by kernel_rfl
theorem fk15 : FnB Try.prog 15 := ⟨_, Try.func15, by kernel_rfl, by kernel_rfl⟩
theorem fk16 : FnB Try.prog 16 := ⟨_, Try.func16, by kernel_rfl, by kernel_rfl⟩
theorem fk17 : FnB Try.prog 17 := ⟨_, Try.func17, by kernel_rfl, by kernel_rfl⟩
theorem fk18 : FnB Try.prog 18 := ⟨_, Try.func18, by kernel_rfl, by kernel_rfl⟩
theorem fk19 : FnB Try.prog 19 := ⟨_, Try.func19, by kernel_rfl, by kernel_rfl⟩
theorem fk20 : FnB Try.prog 20 := ⟨_, Try.func20, by kernel_rfl, by kernel_rfl⟩
theorem fk21 : FnB Try.prog 21 := ⟨_, Try.func21, by kernel_rfl, by kernel_rfl⟩
theorem fk22 : FnB Try.prog 22 := ⟨_, Try.func22, by kernel_rfl, by kernel_rfl⟩
theorem fk23 : FnB Try.prog 23 := ⟨_, Try.func23, by kernel_rfl, by kernel_rfl⟩
theorem fk24 : FnB Try.prog 24 := ⟨_, Try.func24, by kernel_rfl, by kernel_rfl⟩
theorem fk25 : FnB Try.prog 25 := ⟨_, Try.func25, by kernel_rfl, by kernel_rfl⟩
theorem fk26 : FnB Try.prog 26 := ⟨_, Try.func26, by kernel_rfl, by kernel_rfl⟩
theorem fk27 : FnB Try.prog 27 := ⟨_, Try.func27, by kernel_rfl, by kernel_rfl⟩
theorem fk28 : FnB Try.prog 28 := ⟨_, Try.func28, by kernel_rfl, by kernel_rfl⟩
theorem fk29 : FnB Try.prog 29 := ⟨_, Try.func29, by kernel_rfl, by kernel_rfl⟩
theorem fk30 : FnB Try.prog 30 := ⟨_, Try.func30, by kernel_rfl, by kernel_rfl⟩
theorem fk31 : FnB Try.prog 31 := ⟨_, Try.func31, by kernel_rfl, by kernel_rfl⟩
theorem fk32 : FnB Try.prog 32 := ⟨_, Try.func32, by kernel_rfl, by kernel_rfl⟩
theorem fk33 : FnB Try.prog 33 := ⟨_, Try.func33, by kernel_rfl, by kernel_rfl⟩
theorem fk34 : FnB Try.prog 34 := ⟨_, Try.func34, by kernel_rfl, by kernel_rfl⟩
theorem fk35 : FnB Try.prog 35 := ⟨_, Try.func35, by kernel_rfl, by kernel_rfl⟩
theorem fk36 : FnB Try.prog 36 := ⟨_, Try.func36, by kernel_rfl, by kernel_rfl⟩
theorem fk37 : FnB Try.prog 37 := ⟨_, Try.func37, by kernel_rfl, by kernel_rfl⟩
theorem fk40 : FnB Try.prog 40 := ⟨_, Try.func40, by kernel_rfl, by kernel_rfl⟩
theorem fk41 : FnB Try.prog 41 := ⟨_, Try.func41, by kernel_rfl, by kernel_rfl⟩
theorem fk42 : FnB Try.prog 42 := ⟨_, Try.func42, by kernel_rfl, by kernel_rfl⟩
theorem fk43 : FnB Try.prog 43 := ⟨_, Try.func43, by kernel_rfl, by kernel_rfl⟩
theorem fk44 : FnB Try.prog 44 := ⟨_, Try.func44, by kernel_rfl, by kernel_rfl⟩
theorem fk45 : FnB Try.prog 45 := ⟨_, Try.func45, by kernel_rfl, by kernel_rfl⟩
theorem fk46 : FnB Try.prog 46 := ⟨_, Try.func46, by kernel_rfl, by kernel_rfl⟩
theorem fk47 : FnB Try.prog 47 := ⟨_, Try.func47, by kernel_rfl, by kernel_rfl⟩
theorem fk48 : FnB Try.prog 48 := ⟨_, Try.func48, by kernel_rfl, by kernel_rfl⟩
theorem fk49 : FnB Try.prog 49 := ⟨_, Try.func49, by kernel_rfl, by kernel_rfl⟩
theorem fk50 : FnB Try.prog 50 := ⟨_, Try.func50, by kernel_rfl, by kernel_rfl⟩
theorem fk51 : FnB Try.prog 51 := ⟨_, Try.func51, by kernel_rfl, by kernel_rfl⟩
theorem fk52 : FnB Try.prog 52 := ⟨_, Try.func52, by kernel_rfl, by kernel_rfl⟩
theorem fk53 : FnB Try.prog 53 := ⟨_, Try.func53, by kernel_rfl, by kernel_rfl⟩
theorem fk54 : FnB Try.prog 54 := ⟨_, Try.func54, by kernel_rfl, by kernel_rfl⟩
theorem fk57 : FnB Try.prog 57 := ⟨_, Try.func57, by kernel_rfl, by kernel_rfl⟩
theorem fk7 : FnB Try.prog 7 := ⟨_, Try.func7, by kernel_rfl, by kernel_rfl⟩
theorem fk9 : FnB Try.prog 9 := ⟨_, Try.func9, by kernel_rfl, by kernel_rfl⟩
theorem mixed : Try.prog.follows .mixedOrders = true := by kernel_rfl
theorem pl22 : plainB Try.prog 22 = true := by kernel_rfl
theorem pl3 : plainB Try.prog 3 = true := by kernel_rfl
theorem pl38 : plainB Try.prog 38 = true := by kernel_rfl
theorem pl4 : plainB Try.prog 4 = true := by kernel_rfl
theorem pl41 : plainB Try.prog 41 = true := by kernel_rfl
theorem pl45 : plainB Try.prog 45 = true := by kernel_rfl
theorem pl51 : plainB Try.prog 51 = true := by kernel_rfl
theorem pl73 : plainB Try.prog 73 = true := by kernel_rfl
theorem pl74 : plainB Try.prog 74 = true := by kernel_rfl
theorem pl77 : plainB Try.prog 77 = true := by kernel_rfl
theorem pl84 : plainB Try.prog 84 = true := by kernel_rfl
theorem pl87 : plainB Try.prog 87 = true := by kernel_rfl
theorem pl9 : plainB Try.prog 9 = true := by kernel_rfl
theorem pl96 : plainB Try.prog 96 = true := by kernel_rfl
theorem pl99 : plainB Try.prog 99 = true := by kernel_rfl
theorem sl22 : sliceB Try.prog 22 3 1 = true := by kernel_rfl
theorem sl37 : sliceB Try.prog 37 49 3 = true := by kernel_rfl
theorem sl45 : sliceB Try.prog 45 22 1 = true := by kernel_rfl
theorem sl51 : sliceB Try.prog 51 62 3 = true := by kernel_rfl
theorem sl71 : sliceB Try.prog 71 9 1 = true := by kernel_rfl
theorem sl73 : sliceB Try.prog 73 77 1 = true := by kernel_rfl
theorem sl77 : sliceB Try.prog 77 79 3 = true := by kernel_rfl
theorem sl84 : sliceB Try.prog 84 87 1 = true := by kernel_rfl
theorem sl87 : sliceB Try.prog 87 89 3 = true := by kernel_rfl
theorem sl96 : sliceB Try.prog 96 99 1 = true := by kernel_rfl
theorem sl99 : sliceB Try.prog 99 101 3 = true := by kernel_rfl
theorem st101 : structO Try.prog 101 = some ([(0, 1), (1, 1), (2, 1)], [.int .i64 0, .int .i64 0, .string .empty]) := by kernel_rfl
theorem st47 : structO Try.prog 47 = some ([(0, 1), (1, 1)], [.slice none 0 0, .slice none 0 0]) := by kernel_rfl
theorem st53 : structO Try.prog 53 = some ([(0, 1), (1, 1), (2, 1)], [.slice none 0 0, .int .i64 0, .int .i64 0]) := by kernel_rfl
theorem st62 : structO Try.prog 62 = some ([(0, 1), (1, 1), (2, 1)], [.int .i64 0, .int .i64 0, .int .i64 0]) := by kernel_rfl
theorem st76 : structO Try.prog 76 = some ([(0, 1), (1, 1), (2, 1), (3, 1)], [.slice none 0 0, .map none, .int .i64 0, .int .i64 0]) := by kernel_rfl
theorem st79 : structO Try.prog 79 = some ([(0, 1), (1, 1), (2, 1)], [.int .i64 0, .int .i64 0, .slice none 0 0]) := by kernel_rfl
theorem st86 : structO Try.prog 86 = some ([(0, 1), (1, 1), (2, 1), (3, 1)], [.slice none 0 0, .map none, .int .i64 0, .int .i64 0]) := by kernel_rfl
theorem st89 : structO Try.prog 89 = some ([(0, 1), (1, 1), (2, 1)], [.int .i64 0, .int .i64 0, .int .i64 0]) := by kernel_rfl
theorem st98 : structO Try.prog 98 = some ([(0, 1), (1, 1), (2, 1), (3, 1)], [.slice none 0 0, .map none, .int .i64 0, .int .i64 0]) := by kernel_rfl
theorem sz101 : sizeB Try.prog 101 3 = true := by kernel_rfl
theorem sz22 : sizeB Try.prog 22 1 = true := by kernel_rfl
theorem sz3 : sizeB Try.prog 3 1 = true := by kernel_rfl
theorem sz38 : sizeB Try.prog 38 1 = true := by kernel_rfl
theorem sz4 : sizeB Try.prog 4 1 = true := by kernel_rfl
theorem sz41 : sizeB Try.prog 41 1 = true := by kernel_rfl
theorem sz45 : sizeB Try.prog 45 1 = true := by kernel_rfl
theorem sz51 : sizeB Try.prog 51 1 = true := by kernel_rfl
theorem sz77 : sizeB Try.prog 77 1 = true := by kernel_rfl
theorem sz79 : sizeB Try.prog 79 3 = true := by kernel_rfl
theorem sz87 : sizeB Try.prog 87 1 = true := by kernel_rfl
theorem sz89 : sizeB Try.prog 89 3 = true := by kernel_rfl
theorem sz99 : sizeB Try.prog 99 1 = true := by kernel_rfl
theorem ze101 : zeroO Try.prog 101 = some (.agg #[.int .i64 0, .int .i64 0, .string .empty]) := by kernel_rfl
theorem ze22 : zeroO Try.prog 22 = some (.slice none 0 0) := by kernel_rfl
theorem ze3 : zeroO Try.prog 3 = some (.int .i64 0) := by kernel_rfl
theorem ze38 : zeroO Try.prog 38 = some (.pointer none) := by kernel_rfl
theorem ze4 : zeroO Try.prog 4 = some (.bool false) := by kernel_rfl
theorem ze41 : zeroO Try.prog 41 = some (.pointer none) := by kernel_rfl
theorem ze51 : zeroO Try.prog 51 = some (.slice none 0 0) := by kernel_rfl
theorem ze62 : zeroO Try.prog 62 = some (.agg #[.int .i64 0, .int .i64 0, .int .i64 0]) := by kernel_rfl
theorem ze77 : zeroO Try.prog 77 = some (.slice none 0 0) := by kernel_rfl
theorem ze79 : zeroO Try.prog 79 = some (.agg #[.int .i64 0, .int .i64 0, .slice none 0 0]) := by kernel_rfl
theorem ze87 : zeroO Try.prog 87 = some (.slice none 0 0) := by kernel_rfl
theorem ze89 : zeroO Try.prog 89 = some (.agg #[.int .i64 0, .int .i64 0, .int .i64 0]) := by kernel_rfl
theorem ze9 : zeroO Try.prog 9 = some (.string .empty) := by kernel_rfl
theorem ze99 : zeroO Try.prog 99 = some (.slice none 0 0) := by kernel_rfl
end Go.Proofs.Ytbpkfifiigpdcaa
