/- What the program's table says of each slice's elements.
   Conditions: none. -/
import Derived.Test.YtcligpfkmnlhnaaLib3
import Derived.Test.YtcligpfkmnlhnaaBase
namespace Go.Sh
open Go
theorem el_sl_i64 : ElemZ PP t_sl_i64 t_i64_2 1 8 [(.int .i64 0)] := ElemZ.of (by kernel_rfl) (by kernel_rfl) (by kernel_rfl) rfl (by decide)
theorem el_sl_api_Change : ElemZ PP t_sl_api_Change t_api_Change 8 80 ((⟨0, 0, 0, 0, 0, 0, ByteArray.empty, ByteArray.empty⟩ : G_api_Change).cells) := ElemZ.of (by kernel_rfl) (by kernel_rfl) (by kernel_rfl) rfl (by decide)
theorem el_sl_sl_api_Change : ElemZ PP t_sl_sl_api_Change t_sl_api_Change 1 24 [(.slice none 0 0)] := ElemZ.of (by kernel_rfl) (by kernel_rfl) (by kernel_rfl) rfl (by decide)
theorem el_sl_cellplaneref24_Cell : ElemZ PP t_sl_cellplaneref24_Cell t_cellplaneref24_Cell 3 40 ((⟨ByteArray.empty, ByteArray.empty, 0⟩ : G_cellplaneref24_Cell).cells) := ElemZ.of (by kernel_rfl) (by kernel_rfl) (by kernel_rfl) rfl (by decide)
theorem el_sl_api_Item : ElemZ PP t_sl_api_Item t_api_Item 2 24 ((⟨0, ByteArray.empty⟩ : G_api_Item).cells) := ElemZ.of (by kernel_rfl) (by kernel_rfl) (by kernel_rfl) rfl (by decide)
theorem el_sl_api_Lease : ElemZ PP t_sl_api_Lease t_api_Lease 4 32 ((⟨0, 0, 0, 0⟩ : G_api_Lease).cells) := ElemZ.of (by kernel_rfl) (by kernel_rfl) (by kernel_rfl) rfl (by decide)
theorem el_sl_api_Window : ElemZ PP t_sl_api_Window t_api_Window 5 40 ((⟨0, 0, 0, 0, 0⟩ : G_api_Window).cells) := ElemZ.of (by kernel_rfl) (by kernel_rfl) (by kernel_rfl) rfl (by decide)
theorem el_sl_api_Errno : ElemZ PP t_sl_api_Errno t_api_Errno 1 8 [(.int .i64 0)] := ElemZ.of (by kernel_rfl) (by kernel_rfl) (by kernel_rfl) rfl (by decide)
theorem el_sl_u8 : ElemZ PP t_sl_u8 t_u8 1 1 [(.int .u8 0)] := ElemZ.of (by kernel_rfl) (by kernel_rfl) (by kernel_rfl) rfl (by decide)
end Go.Sh
