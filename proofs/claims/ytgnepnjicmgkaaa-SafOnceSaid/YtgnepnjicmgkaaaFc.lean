import Derived.Test.YtgnepnjicmgkaaaSk14
import Derived.Test.YtgnepnjicmgkaaaProg
/-! Closed facts on the types of the program. -/
namespace Go.Proofs.Ytgnepnjicmgkaaa
open Go Go.Proofs.Ytgnepnjicmgkaaa.Sk
theorem ag31 : aggB Try.prog 31 2 = true := by kernel_rfl
theorem ag33 : aggB Try.prog 33 6 = true := by kernel_rfl
theorem ag64 : aggB Try.prog 64 3 = true := by kernel_rfl
theorem ag96 : aggB Try.prog 96 3 = true := by kernel_rfl
theorem by68 : bytesB Try.prog 68 = true := by kernel_rfl
theorem el3 : elemB Try.prog 3 1 8 = true := by kernel_rfl
theorem el33 : elemB Try.prog 33 6 96 = true := by kernel_rfl
theorem el64 : elemB Try.prog 64 3 48 = true := by kernel_rfl
theorem el96 : elemB Try.prog 96 3 48 = true := by kernel_rfl
theorem fd31_0 : fieldB Try.prog 31 0 0 = true := by kernel_rfl
theorem fd31_1 : fieldB Try.prog 31 1 1 = true := by kernel_rfl
theorem fd33_1 : fieldB Try.prog 33 1 1 = true := by kernel_rfl
theorem fd33_2 : fieldB Try.prog 33 2 2 = true := by kernel_rfl
theorem fd33_3 : fieldB Try.prog 33 3 4 = true := by kernel_rfl
theorem fd64_0 : fieldB Try.prog 64 0 0 = true := by kernel_rfl
theorem fd64_1 : fieldB Try.prog 64 1 1 = true := by kernel_rfl
theorem fd64_2 : fieldB Try.prog 64 2 2 = true := by kernel_rfl
theorem fd66_0 : fieldB Try.prog 66 0 0 = true := by kernel_rfl
theorem fd66_1 : fieldB Try.prog 66 1 1 = true := by kernel_rfl
theorem fd66_2 : fieldB Try.prog 66 2 2 = true := by kernel_rfl
theorem fd66_3 : fieldB Try.prog 66 3 3 = true := by kernel_rfl
theorem fd66_4 : fieldB Try.prog 66 4 4 = true := by kernel_rfl
theorem fd66_5 : fieldB Try.prog 66 5 5 = true := by kernel_rfl
theorem fd66_6 : fieldB Try.prog 66 6 6 = true := by kernel_rfl
theorem fd66_7 : fieldB Try.prog 66 7 7 = true := by kernel_rfl
theorem fd66_8 : fieldB Try.prog 66 8 8 = true := by kernel_rfl
theorem fd96_2 : fieldB Try.prog 96 2 2 = true := by kernel_rfl
theorem fk10 : FnB Try.prog 10 := ⟨_, Try.func10, by kernel_rfl, by kernel_rfl⟩
theorem fk11 : FnB Try.prog 11 := ⟨_, Try.func11, by kernel_rfl, by kernel_rfl⟩
theorem fk12 : FnB Try.prog 12 := ⟨_, Try.func12, by kernel_rfl, by kernel_rfl⟩
theorem fk13 : FnB Try.prog 13 := ⟨_, Try.func13, by kernel_rfl, by kernel_rfl⟩
theorem fk14 : FnB Try.prog 14 := ⟨_, Try.func14, by kernel_rfl, by kernel_rfl⟩
theorem fk15 : FnB Try.prog 15 := ⟨_, Try.func15, by kernel_rfl, by kernel_rfl⟩
theorem fk23 : FnB Try.prog 23 := ⟨_, Try.func23, by kernel_rfl, by kernel_rfl⟩
theorem fk25 : FnB Try.prog 25 := ⟨_, Try.func25, by kernel_rfl, by kernel_rfl⟩
theorem fk26 : FnB Try.prog 26 := ⟨_, Try.func26, by kernel_rfl, by kernel_rfl⟩
theorem fk27 : FnB Try.prog 27 := ⟨_, Try.func27, by kernel_rfl, by kernel_rfl⟩
theorem fk28 : FnB Try.prog 28 := ⟨_, Try.func28, by kernel_rfl, by kernel_rfl⟩
theorem fk29 : FnB Try.prog 29 := ⟨_, Try.func29, by kernel_rfl, by kernel_rfl⟩
theorem fk30 : FnB Try.prog 30 := ⟨_, Try.func30, by kernel_rfl, by kernel_rfl⟩
theorem fk31 : FnB Try.prog 31 := ⟨_, Try.func31, by kernel_rfl, by kernel_rfl⟩
theorem fk46 : FnB Try.prog 46 := ⟨_, Try.func46, by kernel_rfl, by kernel_rfl⟩
theorem fk47 : FnB Try.prog 47 := ⟨_, Try.func47, by kernel_rfl, by kernel_rfl⟩
theorem fk57 : FnB Try.prog 57 := ⟨_, Try.func57, by kernel_rfl, by kernel_rfl⟩
theorem fk6 : FnB Try.prog 6 := ⟨_, Try.func6, by kernel_rfl, by kernel_rfl⟩
theorem fk61 : FnB Try.prog 61 := ⟨_, Try.func61, by kernel_rfl, by kernel_rfl⟩
theorem fk7 : FnB Try.prog 7 := ⟨_, Try.func7, by kernel_rfl, by kernel_rfl⟩
theorem fk8 : FnB Try.prog 8 := ⟨_, Try.func8, by kernel_rfl, by kernel_rfl⟩
theorem fk9 : FnB Try.prog 9 := ⟨_, Try.func9, by kernel_rfl, by kernel_rfl⟩
theorem it3 : intB Try.prog 3 .i64 = true := by kernel_rfl
theorem it5 : intB Try.prog 5 .u8 = true := by kernel_rfl
theorem mixed : Try.prog.follows .mixedOrders = true := by kernel_rfl
theorem pl29 : plainB Try.prog 29 = true := by kernel_rfl
theorem pl3 : plainB Try.prog 3 = true := by kernel_rfl
theorem pl38 : plainB Try.prog 38 = true := by kernel_rfl
theorem pl4 : plainB Try.prog 4 = true := by kernel_rfl
theorem pl41 : plainB Try.prog 41 = true := by kernel_rfl
theorem pl62 : plainB Try.prog 62 = true := by kernel_rfl
theorem pl9 : plainB Try.prog 9 = true := by kernel_rfl
theorem sl29 : sliceB Try.prog 29 64 3 = true := by kernel_rfl
theorem sl38 : sliceB Try.prog 38 3 1 = true := by kernel_rfl
theorem sl41 : sliceB Try.prog 41 33 6 = true := by kernel_rfl
theorem sl62 : sliceB Try.prog 62 96 3 = true := by kernel_rfl
theorem sl68 : sliceB Try.prog 68 5 1 = true := by kernel_rfl
theorem st31 : structO Try.prog 31 = some ([(0, 1), (1, 1)], [.string .empty, .slice none 0 0]) := by kernel_rfl
theorem st33 : structO Try.prog 33 = some ([(0, 1), (1, 1), (2, 2), (4, 2)], [.int .i64 0, .int .i64 0, .string .empty, .slice none 0 0, .string .empty, .slice none 0 0]) := by kernel_rfl
theorem st64 : structO Try.prog 64 = some ([(0, 1), (1, 1), (2, 1)], [.int .i64 0, .string .empty, .slice none 0 0]) := by kernel_rfl
theorem st66 : structO Try.prog 66 = some ([(0, 1), (1, 1), (2, 1), (3, 1), (4, 1), (5, 1), (6, 1), (7, 1), (8, 1)], [.int .i64 0, .int .i64 0, .int .i64 0, .slice none 0 0, .int .i64 0, .bool false, .int .i64 0, .slice none 0 0, .int .i64 0]) := by kernel_rfl
theorem sz29 : sizeB Try.prog 29 1 = true := by kernel_rfl
theorem sz3 : sizeB Try.prog 3 1 = true := by kernel_rfl
theorem sz31 : sizeB Try.prog 31 2 = true := by kernel_rfl
theorem sz33 : sizeB Try.prog 33 6 = true := by kernel_rfl
theorem sz38 : sizeB Try.prog 38 1 = true := by kernel_rfl
theorem sz4 : sizeB Try.prog 4 1 = true := by kernel_rfl
theorem sz41 : sizeB Try.prog 41 1 = true := by kernel_rfl
theorem sz62 : sizeB Try.prog 62 1 = true := by kernel_rfl
theorem sz64 : sizeB Try.prog 64 3 = true := by kernel_rfl
theorem sz96 : sizeB Try.prog 96 3 = true := by kernel_rfl
theorem ze3 : zeroO Try.prog 3 = some (.int .i64 0) := by kernel_rfl
theorem ze31 : zeroO Try.prog 31 = some (.agg #[.string .empty, .slice none 0 0]) := by kernel_rfl
theorem ze33 : zeroO Try.prog 33 = some (.agg #[.int .i64 0, .int .i64 0, .string .empty, .slice none 0 0, .string .empty, .slice none 0 0]) := by kernel_rfl
theorem ze5 : zeroO Try.prog 5 = some (.int .u8 0) := by kernel_rfl
theorem ze64 : zeroO Try.prog 64 = some (.agg #[.int .i64 0, .string .empty, .slice none 0 0]) := by kernel_rfl
theorem ze96 : zeroO Try.prog 96 = some (.agg #[.int .i64 0, .string .empty, .slice none 0 0]) := by kernel_rfl
end Go.Proofs.Ytgnepnjicmgkaaa
