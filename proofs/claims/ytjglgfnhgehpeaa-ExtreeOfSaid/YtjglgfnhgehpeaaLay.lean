/- Sizes and places of this program's types, each asked of the kernel. -/
import Derived.Test.YtjglgfnhgehpeaaProg
import Derived.Test.YtjglgfnhgehpeaaFwv
namespace Go.Proofs.Ytjglgfnhgehpeaa
open Go.Fw
theorem ag_Extent : aggs Try.prog 31 = some 3 := by kernel_rfl
theorem ag_Tree : aggs Try.prog 26 = some 1 := by kernel_rfl
theorem ei_s_api_Extent : elemInfo Try.prog 33 = some (31, 3, 24, 3) := by kernel_rfl
theorem el_s_api_Extent : elemSz Try.prog 33 = some 3 := by kernel_rfl
theorem fo_Extent_0 : fieldOff Try.prog 31 0 = some 0 := by kernel_rfl
theorem fo_Extent_1 : fieldOff Try.prog 31 1 = some 1 := by kernel_rfl
theorem fo_Extent_2 : fieldOff Try.prog 31 2 = some 2 := by kernel_rfl
theorem fo_Tree_0 : fieldOff Try.prog 26 0 = some 0 := by kernel_rfl
theorem fo_node_0 : fieldOff Try.prog 93 0 = some 0 := by kernel_rfl
theorem fo_node_1 : fieldOff Try.prog 93 1 = some 3 := by kernel_rfl
theorem fo_node_2 : fieldOff Try.prog 93 2 = some 4 := by kernel_rfl
theorem fo_node_3 : fieldOff Try.prog 93 3 = some 5 := by kernel_rfl
theorem fo_node_4 : fieldOff Try.prog 93 4 = some 6 := by kernel_rfl
theorem fo_node_5 : fieldOff Try.prog 93 5 = some 7 := by kernel_rfl
theorem pl_Extent_0 : place Try.prog 31 0 = some (0, 1) := by kernel_rfl
theorem pl_Extent_1 : place Try.prog 31 1 = some (1, 1) := by kernel_rfl
theorem pl_Extent_2 : place Try.prog 31 2 = some (2, 1) := by kernel_rfl
theorem pl_Tree_0 : place Try.prog 26 0 = some (0, 1) := by kernel_rfl
theorem pl_node_0 : place Try.prog 93 0 = some (0, 3) := by kernel_rfl
theorem pl_node_1 : place Try.prog 93 1 = some (3, 1) := by kernel_rfl
theorem pl_node_2 : place Try.prog 93 2 = some (4, 1) := by kernel_rfl
theorem pl_node_3 : place Try.prog 93 3 = some (5, 1) := by kernel_rfl
theorem pl_node_4 : place Try.prog 93 4 = some (6, 1) := by kernel_rfl
theorem pl_node_5 : place Try.prog 93 5 = some (7, 1) := by kernel_rfl
theorem ps_Extent : (placesOf Try.prog 31).isSome = true := by kernel_rfl
theorem ps_Tree : (placesOf Try.prog 26).isSome = true := by kernel_rfl
theorem ps_node : (placesOf Try.prog 93).isSome = true := by kernel_rfl
theorem pt_p_extree_node : Try.prog.underlying 24 = some (.pointer (Try.prog.pointee 24)) := by kernel_rfl
theorem sc_int : scal Try.prog 3 = true := by kernel_rfl
theorem sc_p_extree_node : scal Try.prog 24 = true := by kernel_rfl
theorem sc_s_api_Extent : scal Try.prog 33 = true := by kernel_rfl
theorem sz_Extent : sizeT Try.prog 31 = some 3 := by kernel_rfl
theorem sz_Tree : sizeT Try.prog 26 = some 1 := by kernel_rfl
theorem sz_int : sizeT Try.prog 3 = some 1 := by kernel_rfl
theorem sz_s_api_Extent : sizeT Try.prog 33 = some 1 := by kernel_rfl
theorem us_s_api_Extent : Try.prog.underlying 33 = some (.slice 31) := by kernel_rfl
theorem zr_Extent : zeros Try.prog 31 = some [.int .i64 0, .int .i64 0, .int .i64 0] := by kernel_rfl
theorem zr_Tree : zeros Try.prog 26 = some [.pointer none] := by kernel_rfl
theorem zr_node : zeros Try.prog 93 = some [.int .i64 0, .int .i64 0, .int .i64 0, .pointer none, .pointer none, .int .i64 0, .int .i64 0, .int .i64 0] := by kernel_rfl
theorem zr_s_api_Extent : zeros Try.prog 33 = some [.slice none 0 0] := by kernel_rfl
theorem HM : Try.prog.follows .mixedOrders = true := by kernel_rfl
end Go.Proofs.Ytjglgfnhgehpeaa
