import Derived.Test.YtommaijibiipeaaSk17
import Derived.Test.YtommaijibiipeaaProg
/-! Closed facts on the types of the program. -/
namespace Go.Proofs.Ytommaijibiipeaa
open Go Go.Proofs.Ytommaijibiipeaa.Sk
theorem ag52 : aggB Try.prog 52 2 = true := by kernel_rfl
theorem el22 : elemB Try.prog 22 1 24 = true := by kernel_rfl
theorem el3 : elemB Try.prog 3 1 8 = true := by kernel_rfl
theorem el52 : elemB Try.prog 52 2 16 = true := by kernel_rfl
theorem fd34_0 : fieldB Try.prog 34 0 0 = true := by kernel_rfl
theorem fd34_1 : fieldB Try.prog 34 1 1 = true := by kernel_rfl
theorem fd34_2 : fieldB Try.prog 34 2 2 = true := by kernel_rfl
theorem fd52_0 : fieldB Try.prog 52 0 0 = true := by kernel_rfl
theorem fd52_1 : fieldB Try.prog 52 1 1 = true := by kernel_rfl
theorem fk11 : FnB Try.prog 11 := ⟨_, Try.func11, by kernel_rfl, by kernel_rfl⟩
theorem fk12 : FnB Try.prog 12 := ⟨_, Try.func12, by kernel_rfl, by kernel_rfl⟩
theorem fk13 : FnB Try.prog 13 := ⟨_, Try.func13, by kernel_rfl, by kernel_rfl⟩
theorem fk14 : FnB Try.prog 14 := ⟨_, Try.func14, by kernel_rfl, by kernel_rfl⟩
theorem fk15 : FnB Try.prog 15 := ⟨_, Try.func15, by kernel_rfl, by kernel_rfl⟩
theorem fk16 : FnB Try.prog 16 := ⟨_, Try.func16, by kernel_rfl, by kernel_rfl⟩
theorem fk21 : FnB Try.prog 21 := ⟨_, Try.func21, by kernel_rfl, by kernel_rfl⟩
theorem fk22 : FnB Try.prog 22 := ⟨_, Try.func22, by kernel_rfl, by kernel_rfl⟩
theorem fk23 : FnB Try.prog 23 := ⟨_, Try.func23, by kernel_rfl, by kernel_rfl⟩
theorem fk24 : FnB Try.prog 24 := ⟨_, Try.func24, by kernel_rfl, by kernel_rfl⟩
theorem fk25 : FnB Try.prog 25 := ⟨_, Try.func25, by kernel_rfl, by kernel_rfl⟩
theorem fk30 : FnB Try.prog 30 := ⟨_, Try.func30, by kernel_rfl, by kernel_rfl⟩
theorem fk34 : FnB Try.prog 34 := ⟨_, Try.func34, by kernel_rfl, by kernel_rfl⟩
theorem fk35 : FnB Try.prog 35 := ⟨_, Try.func35, by kernel_rfl, by kernel_rfl⟩
theorem fk47 : FnB Try.prog 47 := ⟨_, Try.func47, by kernel_rfl, by kernel_rfl⟩
theorem fk54 : FnB Try.prog 54 := ⟨_, Try.func54, by kernel_rfl, by kernel_rfl⟩
theorem fk8 : FnB Try.prog 8 := ⟨_, Try.func8, by kernel_rfl, by kernel_rfl⟩
theorem fk9 : FnB Try.prog 9 := ⟨_, Try.func9, by kernel_rfl, by kernel_rfl⟩
theorem it3 : intB Try.prog 3 .i64 = true := by kernel_rfl
theorem it64 : intB Try.prog 64 .u64 = true := by kernel_rfl
theorem mixed : Try.prog.follows .mixedOrders = true := by kernel_rfl
theorem pl22 : plainB Try.prog 22 = true := by kernel_rfl
theorem pl3 : plainB Try.prog 3 = true := by kernel_rfl
theorem pl32 : plainB Try.prog 32 = true := by kernel_rfl
theorem sl22 : sliceB Try.prog 22 3 1 = true := by kernel_rfl
theorem sl32 : sliceB Try.prog 32 22 1 = true := by kernel_rfl
theorem sl50 : sliceB Try.prog 50 52 2 = true := by kernel_rfl
theorem st34 : structO Try.prog 34 = some ([(0, 1), (1, 1), (2, 1)], [.slice none 0 0, .slice none 0 0, .slice none 0 0]) := by kernel_rfl
theorem st52 : structO Try.prog 52 = some ([(0, 1), (1, 1)], [.int .i64 0, .int .i64 0]) := by kernel_rfl
theorem sz3 : sizeB Try.prog 3 1 = true := by kernel_rfl
theorem sz32 : sizeB Try.prog 32 1 = true := by kernel_rfl
theorem sz52 : sizeB Try.prog 52 2 = true := by kernel_rfl
theorem ze22 : zeroO Try.prog 22 = some (.slice none 0 0) := by kernel_rfl
theorem ze3 : zeroO Try.prog 3 = some (.int .i64 0) := by kernel_rfl
theorem ze52 : zeroO Try.prog 52 = some (.agg #[.int .i64 0, .int .i64 0]) := by kernel_rfl
end Go.Proofs.Ytommaijibiipeaa
