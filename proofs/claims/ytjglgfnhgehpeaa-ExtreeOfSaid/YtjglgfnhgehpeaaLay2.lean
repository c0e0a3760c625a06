/- Sizes and places of this program's types, each asked of the kernel. -/
import Derived.Test.YtjglgfnhgehpeaaLay
import Derived.Test.YtjglgfnhgehpeaaFwv
namespace Go.Proofs.Ytjglgfnhgehpeaa
open Go.Fw
theorem ag_ef33_Step : aggs Try.prog 29 = some 4 := by kernel_rfl
theorem ei_s_extree_Tree : elemInfo Try.prog 42 = some (26, 1, 8, 1) := by kernel_rfl
theorem ei_s_s_api_Extent : elemInfo Try.prog 43 = some (33, 1, 24, 1) := by kernel_rfl
theorem el_s_extree_Tree : elemSz Try.prog 42 = some 1 := by kernel_rfl
theorem el_s_s_api_Extent : elemSz Try.prog 43 = some 1 := by kernel_rfl
theorem el_s_tegularef33_Step : elemSz Try.prog 22 = some 4 := by kernel_rfl
theorem fo_ef33_Step_0 : fieldOff Try.prog 29 0 = some 0 := by kernel_rfl
theorem fo_ef33_Step_1 : fieldOff Try.prog 29 1 = some 1 := by kernel_rfl
theorem fo_ef33_Step_2 : fieldOff Try.prog 29 2 = some 2 := by kernel_rfl
theorem fo_ef33_Step_3 : fieldOff Try.prog 29 3 = some 3 := by kernel_rfl
theorem iF_Extent : intFields Try.prog 31 3 = true := by kernel_rfl
theorem sc_bool : scal Try.prog 4 = true := by kernel_rfl
theorem sc_uint8 : scal Try.prog 5 = true := by kernel_rfl
theorem sz_ef33_Step : sizeT Try.prog 29 = some 4 := by kernel_rfl
theorem sz_p_extree_node : sizeT Try.prog 24 = some 1 := by kernel_rfl
theorem un_bool : Try.prog.underlying 4 = some (.bool) := by kernel_rfl
theorem un_int : Try.prog.underlying 3 = some (.int .i64) := by kernel_rfl
theorem un_uint16 : Try.prog.underlying 39 = some (.int .u16) := by kernel_rfl
theorem un_uint8 : Try.prog.underlying 5 = some (.int .u8) := by kernel_rfl
theorem us_s_extree_Tree : Try.prog.underlying 42 = some (.slice 26) := by kernel_rfl
theorem us_s_tegularef33_Step : Try.prog.underlying 22 = some (.slice 29) := by kernel_rfl
theorem zr_ef33_Step : zeros Try.prog 29 = some [.bool false, .int .u8 0, .int .u8 0, .int .u8 0] := by kernel_rfl
end Go.Proofs.Ytjglgfnhgehpeaa
