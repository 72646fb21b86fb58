import Derived.Test.YtommaijibiipeaaSk9
import Derived.Test.YtommaijibiipeaaProg
/-! Closed facts on the types of the program. -/
namespace Go.Proofs.Ytommaijibiipeaa
open Go Go.Proofs.Ytommaijibiipeaa.Sk
theorem el3 : elemB Try.prog 3 1 8 = true := by kernel_rfl
theorem fk10 : FnB Try.prog 10 := ⟨_, Try.func10, by kernel_rfl, by kernel_rfl⟩
theorem fk11 : FnB Try.prog 11 := ⟨_, Try.func11, by kernel_rfl, by kernel_rfl⟩
theorem fk12 : FnB Try.prog 12 := ⟨_, Try.func12, by kernel_rfl, by kernel_rfl⟩
theorem fk21 : FnB Try.prog 21 := ⟨_, Try.func21, by kernel_rfl, by kernel_rfl⟩
theorem fk22 : FnB Try.prog 22 := ⟨_, Try.func22, by kernel_rfl, by kernel_rfl⟩
theorem fk8 : FnB Try.prog 8 := ⟨_, Try.func8, by kernel_rfl, by kernel_rfl⟩
theorem fk9 : FnB Try.prog 9 := ⟨_, Try.func9, by kernel_rfl, by kernel_rfl⟩
theorem mixed : Try.prog.follows .mixedOrders = true := by kernel_rfl
theorem pl3 : plainB Try.prog 3 = true := by kernel_rfl
theorem sl22 : sliceB Try.prog 22 3 1 = true := by kernel_rfl
theorem sz3 : sizeB Try.prog 3 1 = true := by kernel_rfl
theorem ze3 : zeroO Try.prog 3 = some (.int .i64 0) := by kernel_rfl
end Go.Proofs.Ytommaijibiipeaa
