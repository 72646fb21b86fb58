import Derived.Test.YtbfdebddoncfhaaMD
import Derived.Test.YtbfdebddoncfhaaProg
/-! Closed facts on the types of the program. -/
namespace Go.Proofs.Ytbfdebddoncfhaa
open Go Go.Proofs.Ytbfdebddoncfhaa.Sk
theorem ag104 : aggB Try.prog 104 3 = true := by kernel_rfl
theorem ag126 : aggB Try.prog 126 3 = true := by kernel_rfl
theorem ag133 : aggB Try.prog 133 3 = true := by kernel_rfl
theorem ag30 : aggB Try.prog 30 5 = true := by kernel_rfl
theorem ag33 : aggB Try.prog 33 2 = true := by kernel_rfl
theorem ag35 : aggB Try.prog 35 12 = true := by kernel_rfl
theorem ag54 : aggB Try.prog 54 2 = true := by kernel_rfl
theorem ag58 : aggB Try.prog 58 3 = true := by kernel_rfl
theorem ag93 : aggB Try.prog 93 2 = true := by kernel_rfl
theorem by101 : bytesB Try.prog 101 = true := by kernel_rfl
theorem el104 : elemB Try.prog 104 3 48 = true := by kernel_rfl
theorem el124 : elemB Try.prog 124 1 24 = true := by kernel_rfl
theorem el126 : elemB Try.prog 126 3 24 = true := by kernel_rfl
theorem el133 : elemB Try.prog 133 3 48 = true := by kernel_rfl
theorem el3 : elemB Try.prog 3 1 8 = true := by kernel_rfl
theorem el35 : elemB Try.prog 35 12 168 = true := by kernel_rfl
theorem el58 : elemB Try.prog 58 3 24 = true := by kernel_rfl
theorem fd100_0 : fieldB Try.prog 100 0 0 = true := by kernel_rfl
theorem fd100_1 : fieldB Try.prog 100 1 12 = true := by kernel_rfl
theorem fd100_2 : fieldB Try.prog 100 2 13 = true := by kernel_rfl
theorem fd104_0 : fieldB Try.prog 104 0 0 = true := by kernel_rfl
theorem fd104_1 : fieldB Try.prog 104 1 1 = true := by kernel_rfl
theorem fd104_2 : fieldB Try.prog 104 2 2 = true := by kernel_rfl
theorem fd123_0 : fieldB Try.prog 123 0 0 = true := by kernel_rfl
theorem fd123_1 : fieldB Try.prog 123 1 1 = true := by kernel_rfl
theorem fd123_2 : fieldB Try.prog 123 2 2 = true := by kernel_rfl
theorem fd123_3 : fieldB Try.prog 123 3 3 = true := by kernel_rfl
theorem fd126_0 : fieldB Try.prog 126 0 0 = true := by kernel_rfl
theorem fd126_1 : fieldB Try.prog 126 1 1 = true := by kernel_rfl
theorem fd126_2 : fieldB Try.prog 126 2 2 = true := by kernel_rfl
theorem fd133_0 : fieldB Try.prog 133 0 0 = true := by kernel_rfl
theorem fd133_1 : fieldB Try.prog 133 1 1 = true := by kernel_rfl
theorem fd133_2 : fieldB Try.prog 133 2 2 = true := by kernel_rfl
theorem fd33_0 : fieldB Try.prog 33 0 0 = true := by kernel_rfl
theorem fd33_1 : fieldB Try.prog 33 1 1 = true := by kernel_rfl
theorem fd35_0 : fieldB Try.prog 35 0 0 = true := by kernel_rfl
theorem fd35_1 : fieldB Try.prog 35 1 5 = true := by kernel_rfl
theorem fd35_2 : fieldB Try.prog 35 2 6 = true := by kernel_rfl
theorem fd35_3 : fieldB Try.prog 35 3 7 = true := by kernel_rfl
theorem fd35_4 : fieldB Try.prog 35 4 8 = true := by kernel_rfl
theorem fd35_5 : fieldB Try.prog 35 5 10 = true := by kernel_rfl
theorem fd52_0 : fieldB Try.prog 52 0 0 = true := by kernel_rfl
theorem fd52_1 : fieldB Try.prog 52 1 1 = true := by kernel_rfl
theorem fd52_2 : fieldB Try.prog 52 2 2 = true := by kernel_rfl
theorem fd52_3 : fieldB Try.prog 52 3 3 = true := by kernel_rfl
theorem fd52_4 : fieldB Try.prog 52 4 4 = true := by kernel_rfl
theorem fd52_5 : fieldB Try.prog 52 5 5 = true := by kernel_rfl
theorem fd52_6 : fieldB Try.prog 52 6 6 = true := by kernel_rfl
theorem fd52_7 : fieldB Try.prog 52 7 7 = true := by kernel_rfl
theorem fd54_0 : fieldB Try.prog 54 0 0 = true := by kernel_rfl
theorem fd54_1 : fieldB Try.prog 54 1 1 = true := by kernel_rfl
theorem fd58_0 : fieldB Try.prog 58 0 0 = true := by kernel_rfl
theorem fd58_1 : fieldB Try.prog 58 1 1 = true := by kernel_rfl
theorem fd58_2 : fieldB Try.prog 58 2 2 = true := by kernel_rfl
theorem fd91_0 : fieldB Try.prog 91 0 0 = true := by kernel_rfl
theorem fd91_1 : fieldB Try.prog 91 1 1 = true := by kernel_rfl
theorem fd91_2 : fieldB Try.prog 91 2 2 = true := by kernel_rfl
theorem fd91_3 : fieldB Try.prog 91 3 3 = true := by kernel_rfl
theorem fd91_4 : fieldB Try.prog 91 4 4 = true := by kernel_rfl
theorem fd91_5 : fieldB Try.prog 91 5 5 = true := by kernel_rfl
theorem fd91_6 : fieldB Try.prog 91 6 6 = true := by kernel_rfl
theorem fd91_7 : fieldB Try.prog 91 7 7 = true := by kernel_rfl
theorem fd91_8 : fieldB Try.prog 91 8 8 = true := by kernel_rfl
theorem fd91_9 : fieldB Try.prog 91 9 9 = true := by kernel_rfl
theorem fk10 : FnB Try.prog 10 := ⟨_, Try.func10, by kernel_rfl, by kernel_rfl⟩
theorem fk11 : FnB Try.prog 11 := ⟨_, Try.func11, by kernel_rfl, by kernel_rfl⟩
theorem fk12 : FnB Try.prog 12 := ⟨_, Try.func12, by kernel_rfl, by kernel_rfl⟩
theorem fk13 : FnB Try.prog 13 := ⟨_, Try.func13, by kernel_rfl, by kernel_rfl⟩
theorem fk14 : FnB Try.prog 14 := ⟨_, Try.func14, by kernel_rfl, by kernel_rfl⟩
theorem fk15 : FnB Try.prog 15 := ⟨_, Try.func15, by kernel_rfl, by kernel_rfl⟩
theorem fk16 : FnB Try.prog 16 := ⟨_, Try.func16, by kernel_rfl, by kernel_rfl⟩
theorem fk17 : FnB Try.prog 17 := ⟨_, Try.func17, by kernel_rfl, by kernel_rfl⟩
theorem fk18 : FnB Try.prog 18 := ⟨_, Try.func18, by kernel_rfl, by kernel_rfl⟩
theorem fk19 : FnB Try.prog 19 := ⟨_, Try.func19, by kernel_rfl, by kernel_rfl⟩
theorem fk20 : FnB Try.prog 20 := ⟨_, Try.func20, by kernel_rfl, by kernel_rfl⟩
theorem fk30 : FnB Try.prog 30 := ⟨_, Try.func30, by kernel_rfl, by kernel_rfl⟩
theorem fk31 : FnB Try.prog 31 := ⟨_, Try.func31, by kernel_rfl, by kernel_rfl⟩
theorem fk32 : FnB Try.prog 32 := ⟨_, Try.func32, by kernel_rfl, by kernel_rfl⟩
theorem fk33 : FnB Try.prog 33 := ⟨_, Try.func33, by kernel_rfl, by kernel_rfl⟩
theorem fk34 : FnB Try.prog 34 := ⟨_, Try.func34, by kernel_rfl, by kernel_rfl⟩
theorem fk35 : FnB Try.prog 35 := ⟨_, Try.func35, by kernel_rfl, by kernel_rfl⟩
theorem fk36 : FnB Try.prog 36 := ⟨_, Try.func36, by kernel_rfl, by kernel_rfl⟩
theorem fk37 : FnB Try.prog 37 := ⟨_, Try.func37, by kernel_rfl, by kernel_rfl⟩
theorem fk48 : FnB Try.prog 48 := ⟨_, Try.func48, by kernel_rfl, by kernel_rfl⟩
theorem fk49 : FnB Try.prog 49 := ⟨_, Try.func49, by kernel_rfl, by kernel_rfl⟩
theorem fk50 : FnB Try.prog 50 := ⟨_, Try.func50, by kernel_rfl, by kernel_rfl⟩
theorem fk51 : FnB Try.prog 51 := ⟨_, Try.func51, by kernel_rfl, by kernel_rfl⟩
theorem fk52 : FnB Try.prog 52 := ⟨_, Try.func52, by kernel_rfl, by kernel_rfl⟩
theorem fk53 : FnB Try.prog 53 := ⟨_, Try.func53, by kernel_rfl, by kernel_rfl⟩
theorem fk54 : FnB Try.prog 54 := ⟨_, Try.func54, by kernel_rfl, by kernel_rfl⟩
theorem fk65 : FnB Try.prog 65 := ⟨_, Try.func65, by kernel_rfl, by kernel_rfl⟩
theorem fk66 : FnB Try.prog 66 := ⟨_, Try.func66, by kernel_rfl, by kernel_rfl⟩
theorem fk67 : FnB Try.prog 67 := ⟨_, Try.func67, by kernel_rfl, by kernel_rfl⟩
theorem fk68 : FnB Try.prog 68 := ⟨_, Try.func68, by kernel_rfl, by kernel_rfl⟩
theorem fk7 : FnB Try.prog 7 := ⟨_, Try.func7, by kernel_rfl, by kernel_rfl⟩
theorem fk75 : FnB Try.prog 75 := ⟨_, Try.func75, by kernel_rfl, by kernel_rfl⟩
theorem fk76 : FnB Try.prog 76 := ⟨_, Try.func76, by kernel_rfl, by kernel_rfl⟩
theorem fk79 : FnB Try.prog 79 := ⟨_, Try.func79, by kernel_rfl, by kernel_rfl⟩
theorem fk8 : FnB Try.prog 8 := ⟨_, Try.func8, by kernel_rfl, by kernel_rfl⟩
theorem fk9 : FnB Try.prog 9 := ⟨_, Try.func9, by kernel_rfl, by kernel_rfl⟩
theorem fv35_0 : fvB Try.prog 35 0 0 (some 5) = true := by kernel_rfl
theorem it3 : intB Try.prog 3 .i64 = true := by kernel_rfl
theorem it5 : intB Try.prog 5 .u8 = true := by kernel_rfl
theorem mixed : Try.prog.follows .mixedOrders = true := by kernel_rfl
theorem pl102 : plainB Try.prog 102 = true := by kernel_rfl
theorem pl120 : plainB Try.prog 120 = true := by kernel_rfl
theorem pl121 : plainB Try.prog 121 = true := by kernel_rfl
theorem pl124 : plainB Try.prog 124 = true := by kernel_rfl
theorem pl22 : plainB Try.prog 22 = true := by kernel_rfl
theorem pl24 : plainB Try.prog 24 = true := by kernel_rfl
theorem pl3 : plainB Try.prog 3 = true := by kernel_rfl
theorem pl31 : plainB Try.prog 31 = true := by kernel_rfl
theorem pl4 : plainB Try.prog 4 = true := by kernel_rfl
theorem pl50 : plainB Try.prog 50 = true := by kernel_rfl
theorem pl84 : plainB Try.prog 84 = true := by kernel_rfl
theorem pl87 : plainB Try.prog 87 = true := by kernel_rfl
theorem pl88 : plainB Try.prog 88 = true := by kernel_rfl
theorem pl89 : plainB Try.prog 89 = true := by kernel_rfl
theorem pl9 : plainB Try.prog 9 = true := by kernel_rfl
theorem sl101 : sliceB Try.prog 101 5 1 = true := by kernel_rfl
theorem sl102 : sliceB Try.prog 102 133 3 = true := by kernel_rfl
theorem sl120 : sliceB Try.prog 120 124 1 = true := by kernel_rfl
theorem sl124 : sliceB Try.prog 124 126 3 = true := by kernel_rfl
theorem sl22 : sliceB Try.prog 22 3 1 = true := by kernel_rfl
theorem sl31 : sliceB Try.prog 31 104 3 = true := by kernel_rfl
theorem sl41 : sliceB Try.prog 41 35 12 = true := by kernel_rfl
theorem sl48 : sliceB Try.prog 48 54 2 = true := by kernel_rfl
theorem sl50 : sliceB Try.prog 50 58 3 = true := by kernel_rfl
theorem st100 : structO Try.prog 100 = some ([(0, 12), (12, 1), (13, 1)], [.int .i64 0, .int .i64 0, .string .empty, .string .empty, .string .empty, .int .i64 0, .int .i64 0, .int .i64 0, .string .empty, .slice none 0 0, .string .empty, .slice none 0 0, .int .i64 0, .bool false]) := by kernel_rfl
theorem st104 : structO Try.prog 104 = some ([(0, 1), (1, 1), (2, 1)], [.int .i64 0, .string .empty, .slice none 0 0]) := by kernel_rfl
theorem st123 : structO Try.prog 123 = some ([(0, 1), (1, 1), (2, 1), (3, 1)], [.slice none 0 0, .map none, .int .i64 0, .int .i64 0]) := by kernel_rfl
theorem st126 : structO Try.prog 126 = some ([(0, 1), (1, 1), (2, 1)], [.int .i64 0, .int .i64 0, .int .i64 0]) := by kernel_rfl
theorem st30 : structO Try.prog 30 = some ([(0, 1), (1, 1), (2, 1), (3, 1), (4, 1)], [.int .i64 0, .int .i64 0, .string .empty, .string .empty, .string .empty]) := by kernel_rfl
theorem st33 : structO Try.prog 33 = some ([(0, 1), (1, 1)], [.string .empty, .slice none 0 0]) := by kernel_rfl
theorem st35 : structO Try.prog 35 = some ([(0, 5), (5, 1), (6, 1), (7, 1), (8, 2), (10, 2)], [.int .i64 0, .int .i64 0, .string .empty, .string .empty, .string .empty, .int .i64 0, .int .i64 0, .int .i64 0, .string .empty, .slice none 0 0, .string .empty, .slice none 0 0]) := by kernel_rfl
theorem st52 : structO Try.prog 52 = some ([(0, 1), (1, 1), (2, 1), (3, 1), (4, 1), (5, 1), (6, 1), (7, 1)], [.pointer none, .slice none 0 0, .int .i64 0, .int .i64 0, .int .i64 0, .int .i64 0, .int .i64 0, .int .i64 0]) := by kernel_rfl
theorem st58 : structO Try.prog 58 = some ([(0, 1), (1, 1), (2, 1)], [.int .i64 0, .int .i64 0, .bool false]) := by kernel_rfl
theorem st91 : structO Try.prog 91 = some ([(0, 1), (1, 1), (2, 1), (3, 1), (4, 1), (5, 1), (6, 1), (7, 1), (8, 1), (9, 1)], [.pointer none, .int .i64 0, .int .i64 0, .int .i64 0, .int .i64 0, .map none, .map none, .map none, .slice none 0 0, .slice none 0 0]) := by kernel_rfl
theorem st93 : structO Try.prog 93 = some ([(0, 1), (1, 1)], [.int .i64 0, .int .i64 0]) := by kernel_rfl
theorem sz102 : sizeB Try.prog 102 1 = true := by kernel_rfl
theorem sz104 : sizeB Try.prog 104 3 = true := by kernel_rfl
theorem sz124 : sizeB Try.prog 124 1 = true := by kernel_rfl
theorem sz126 : sizeB Try.prog 126 3 = true := by kernel_rfl
theorem sz133 : sizeB Try.prog 133 3 = true := by kernel_rfl
theorem sz22 : sizeB Try.prog 22 1 = true := by kernel_rfl
theorem sz24 : sizeB Try.prog 24 1 = true := by kernel_rfl
theorem sz3 : sizeB Try.prog 3 1 = true := by kernel_rfl
theorem sz31 : sizeB Try.prog 31 1 = true := by kernel_rfl
theorem sz33 : sizeB Try.prog 33 2 = true := by kernel_rfl
theorem sz35 : sizeB Try.prog 35 12 = true := by kernel_rfl
theorem sz4 : sizeB Try.prog 4 1 = true := by kernel_rfl
theorem sz50 : sizeB Try.prog 50 1 = true := by kernel_rfl
theorem sz58 : sizeB Try.prog 58 3 = true := by kernel_rfl
theorem sz93 : sizeB Try.prog 93 2 = true := by kernel_rfl
theorem ze104 : zeroO Try.prog 104 = some (.agg #[.int .i64 0, .string .empty, .slice none 0 0]) := by kernel_rfl
theorem ze124 : zeroO Try.prog 124 = some (.slice none 0 0) := by kernel_rfl
theorem ze126 : zeroO Try.prog 126 = some (.agg #[.int .i64 0, .int .i64 0, .int .i64 0]) := by kernel_rfl
theorem ze133 : zeroO Try.prog 133 = some (.agg #[.int .i64 0, .string .empty, .slice none 0 0]) := by kernel_rfl
theorem ze3 : zeroO Try.prog 3 = some (.int .i64 0) := by kernel_rfl
theorem ze33 : zeroO Try.prog 33 = some (.agg #[.string .empty, .slice none 0 0]) := by kernel_rfl
theorem ze35 : zeroO Try.prog 35 = some (.agg #[.int .i64 0, .int .i64 0, .string .empty, .string .empty, .string .empty, .int .i64 0, .int .i64 0, .int .i64 0, .string .empty, .slice none 0 0, .string .empty, .slice none 0 0]) := by kernel_rfl
theorem ze5 : zeroO Try.prog 5 = some (.int .u8 0) := by kernel_rfl
theorem ze58 : zeroO Try.prog 58 = some (.agg #[.int .i64 0, .int .i64 0, .bool false]) := by kernel_rfl
theorem ze93 : zeroO Try.prog 93 = some (.agg #[.int .i64 0, .int .i64 0]) := by kernel_rfl
theorem ze97 : zeroO Try.prog 97 = some (.pointer none) := by kernel_rfl
end Go.Proofs.Ytbfdebddoncfhaa
