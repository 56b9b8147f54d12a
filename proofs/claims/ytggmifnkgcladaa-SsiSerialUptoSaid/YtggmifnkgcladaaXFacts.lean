/- The closed facts on the types of the program. No condition. -/
import Derived.Test.YtggmifnkgcladaaProg
import Derived.Test.YtggmifnkgcladaaXG6
namespace Go.Proofs.Ytggmifnkgcladaa
open Go Go.Vc
abbrev f_gosem_cut_init : Nat := 2
abbrev f_law20_SsiScripts : Nat := 3
abbrev f_law20_SsiSerial : Nat := 4
abbrev f_law20_SsiAlone : Nat := 5
abbrev f_law20_SsiLocks : Nat := 6
abbrev f_law20_SsiReaders : Nat := 7
abbrev f_law20_SsiOne : Nat := 8
abbrev f_law20_awake : Nat := 9
abbrev f_ssi_New : Nat := 10
abbrev f_law20_one : Nat := 11
abbrev f_p_ssi_Set_Kept : Nat := 12
abbrev f_p_ref20_Set_Kept : Nat := 13
abbrev f_p_ssi_Set_Pivot : Nat := 14
abbrev f_p_ref20_Set_Pivot : Nat := 15
abbrev f_p_ssi_Set_Commit : Nat := 16
abbrev f_p_ssi_Set_Begin : Nat := 17
abbrev f_p_ref20_Set_Begin : Nat := 18
abbrev f_p_ssi_Set_Read : Nat := 19
abbrev f_p_ssi_Set_Write : Nat := 20
abbrev f_p_ssi_Set_Abort : Nat := 21
abbrev f_law20_order : Nat := 22
abbrev f_law20_num : Nat := 23
abbrev f_p_ref20_Set_Read : Nat := 24
abbrev f_p_ref20_Set_Write : Nat := 25
abbrev f_p_ref20_Set_Commit : Nat := 26
abbrev f_p_ref20_Set_Abort : Nat := 27
abbrev f_p_ssi_tx_pivot : Nat := 28
abbrev f_p_ref20_Set_pivot : Nat := 29
abbrev f_p_ssi_Set_active : Nat := 30
abbrev f_p_ssi_Set_forget : Nat := 31
abbrev f_p_ssi_tx_keep : Nat := 32
abbrev f_p_ssi_Set_others : Nat := 33
abbrev f_p_ssi_Set_Read_1 : Nat := 34
abbrev f_slices_ContainsFunc_sl_api_Write_api_Write : Nat := 35
abbrev f_p_ssi_Set_Read_1_1 : Nat := 36
abbrev f_ssi_meets : Nat := 37
abbrev f_p_ssi_Set_edge : Nat := 38
abbrev f_p_ssi_Set_judge : Nat := 39
abbrev f_slices_Clone_sl_api_Value_api_Value : Nat := 40
abbrev f_p_ssi_Set_Write_1 : Nat := 41
abbrev f_slices_ContainsFunc_sl_api_Read_api_Read : Nat := 42
abbrev f_p_ssi_Set_Write_1_1 : Nat := 43
abbrev f_p_ref20_Set_Edge : Nat := 44
abbrev f_p_ref20_Set_active : Nat := 45
abbrev f_ref20_Keep : Nat := 46
abbrev f_p_ref20_Set_judge : Nat := 47
abbrev f_p_ssi_Set_counts : Nat := 48
abbrev f_p_ssi_tx_keep_1 : Nat := 49
abbrev f_slices_DeleteFunc_sl_api_Read_api_Read : Nat := 50
abbrev f_slices_IndexFunc_sl_api_Write_api_Write : Nat := 51
abbrev f_plan_Covers : Nat := 52
abbrev f_slices_IndexFunc_sl_api_Read_api_Read : Nat := 53
abbrev f_ref20_ahead : Nat := 54
abbrev f_ref20_Meets : Nat := 55
abbrev f_value_Compare : Nat := 56
abbrev f_ref18_Covers : Nat := 57
abbrev f_cmp_Or_int : Nat := 58
abbrev f_cmp_Compare_int : Nat := 59
abbrev f_cmp_Compare_int64 : Nat := 60
abbrev f_cmp_Compare_string : Nat := 61
abbrev f_ref01_Compare : Nat := 62
abbrev f_cmp_isNaN_int : Nat := 63
abbrev f_cmp_isNaN_int64 : Nat := 64
abbrev f_cmp_isNaN_string : Nat := 65
abbrev ty_ty_0 : Nat := 0
abbrev ty_int64 : Nat := 2
abbrev ty_int : Nat := 3
abbrev ty_bool : Nat := 4
abbrev ty_uint8 : Nat := 5
abbrev ty_abi_BoundsErrorCode : Nat := 6
abbrev ty_runtime_boundsError : Nat := 8
abbrev ty_string : Nat := 9
abbrev ty_runtime_errorString : Nat := 10
abbrev ty_runtime_plainError : Nat := 11
abbrev ty_uintptr : Nat := 12
abbrev ty_runtime_errorAddressString : Nat := 14
abbrev ty_p_runtime_TypeAssertionError : Nat := 15
abbrev ty_p_runtime_PanicNilError : Nat := 16
abbrev ty_p_abi_Type : Nat := 17
abbrev ty_maps_unhashableTypeError : Nat := 19
abbrev ty_interface : Nat := 20
abbrev ty_int32 : Nat := 21
abbrev ty_sl_cadastrelaw20_Op : Nat := 22
abbrev ty_p_ssi_Set : Nat := 24
abbrev ty_p_cadastreref20_Set : Nat := 26
abbrev ty_sl_cadastreref20_Tx : Nat := 27
abbrev ty_cadastreref20_Set : Nat := 29
abbrev ty_api_Value : Nat := 31
abbrev ty_api_Read : Nat := 33
abbrev ty_sl_api_Value : Nat := 34
abbrev ty_api_Write : Nat := 36
abbrev ty_cadastrelaw20_Op : Nat := 38
abbrev ty_api_Errno : Nat := 39
abbrev ty_api_Errno_api_Errno : Nat := 40
abbrev ty_sl_api_Read : Nat := 46
abbrev ty_sl_api_Write : Nat := 47
abbrev ty_cadastreref20_Tx : Nat := 49
abbrev ty_sl_uint8 : Nat := 54
abbrev ty_uint : Nat := 57
abbrev ty_map_int_p_ssi_tx : Nat := 58
abbrev ty_ssi_Set : Nat := 60
abbrev ty_p_ssi_tx : Nat := 61
abbrev ty_map_int_bool : Nat := 62
abbrev ty_ssi_tx : Nat := 64
abbrev ty_p_ssi_tx_api_Errno : Nat := 65
abbrev ty_sl_bool : Nat := 77
abbrev ty_sl_int : Nat := 91
abbrev ty_runtime_TypeAssertionError : Nat := 96
abbrev ty_runtime_PanicNilError : Nat := 99
abbrev ty_uint32 : Nat := 100
abbrev ty_abi_TFlag : Nat := 101
abbrev ty_abi_Kind : Nat := 102
abbrev ty_p_uint8 : Nat := 104
abbrev ty_abi_NameOff : Nat := 105
abbrev ty_abi_TypeOff : Nat := 106
abbrev ty_abi_Type : Nat := 108
abbrev ty_unsafe_Pointer : Nat := 109
theorem ap_sl_api_Read : ApTy Try.prog 46 33 8 88 := ⟨by kernel_rfl, by kernel_rfl⟩
theorem ap_sl_api_Value : ApTy Try.prog 34 31 3 32 := ⟨by kernel_rfl, by kernel_rfl⟩
theorem ap_sl_api_Write : ApTy Try.prog 47 36 3 64 := ⟨by kernel_rfl, by kernel_rfl⟩
theorem ap_sl_cadastreref20_Tx : ApTy Try.prog 27 49 5 72 := ⟨by kernel_rfl, by kernel_rfl⟩
theorem el_sl_api_Read : elSize Try.prog 46 = some 8 := by kernel_rfl
theorem el_sl_api_Value : elSize Try.prog 34 = some 3 := by kernel_rfl
theorem el_sl_api_Write : elSize Try.prog 47 = some 3 := by kernel_rfl
theorem el_sl_bool : elSize Try.prog 77 = some 1 := by kernel_rfl
theorem el_sl_cadastrelaw20_Op : elSize Try.prog 22 = some 13 := by kernel_rfl
theorem el_sl_cadastreref20_Tx : elSize Try.prog 27 = some 5 := by kernel_rfl
theorem el_sl_int : elSize Try.prog 91 = some 1 := by kernel_rfl
theorem fo_api_Read_0 : fldOff Try.prog 33 0 = some 0 := by kernel_rfl
theorem fo_api_Read_1 : fldOff Try.prog 33 1 = some 1 := by kernel_rfl
theorem fo_api_Read_2 : fldOff Try.prog 33 2 = some 2 := by kernel_rfl
theorem fo_api_Read_3 : fldOff Try.prog 33 3 = some 5 := by kernel_rfl
theorem fo_api_Value_0 : fldOff Try.prog 31 0 = some 0 := by kernel_rfl
theorem fo_api_Value_1 : fldOff Try.prog 31 1 = some 1 := by kernel_rfl
theorem fo_api_Value_2 : fldOff Try.prog 31 2 = some 2 := by kernel_rfl
theorem fo_api_Write_0 : fldOff Try.prog 36 0 = some 0 := by kernel_rfl
theorem fo_api_Write_1 : fldOff Try.prog 36 1 = some 1 := by kernel_rfl
theorem fo_api_Write_2 : fldOff Try.prog 36 2 = some 2 := by kernel_rfl
theorem fo_cadastrelaw20_Op_0 : fldOff Try.prog 38 0 = some 0 := by kernel_rfl
theorem fo_cadastrelaw20_Op_1 : fldOff Try.prog 38 1 = some 1 := by kernel_rfl
theorem fo_cadastrelaw20_Op_2 : fldOff Try.prog 38 2 = some 2 := by kernel_rfl
theorem fo_cadastrelaw20_Op_3 : fldOff Try.prog 38 3 = some 10 := by kernel_rfl
theorem fo_cadastreref20_Set_0 : fldOff Try.prog 29 0 = some 0 := by kernel_rfl
theorem fo_cadastreref20_Set_1 : fldOff Try.prog 29 1 = some 1 := by kernel_rfl
theorem fo_cadastreref20_Tx_0 : fldOff Try.prog 49 0 = some 0 := by kernel_rfl
theorem fo_cadastreref20_Tx_1 : fldOff Try.prog 49 1 = some 1 := by kernel_rfl
theorem fo_cadastreref20_Tx_2 : fldOff Try.prog 49 2 = some 2 := by kernel_rfl
theorem fo_cadastreref20_Tx_3 : fldOff Try.prog 49 3 = some 3 := by kernel_rfl
theorem fo_cadastreref20_Tx_4 : fldOff Try.prog 49 4 = some 4 := by kernel_rfl
theorem fo_ssi_Set_0 : fldOff Try.prog 60 0 = some 0 := by kernel_rfl
theorem fo_ssi_Set_1 : fldOff Try.prog 60 1 = some 1 := by kernel_rfl
theorem fo_ssi_Set_2 : fldOff Try.prog 60 2 = some 2 := by kernel_rfl
theorem fo_ssi_tx_0 : fldOff Try.prog 64 0 = some 0 := by kernel_rfl
theorem fo_ssi_tx_1 : fldOff Try.prog 64 1 = some 1 := by kernel_rfl
theorem fo_ssi_tx_2 : fldOff Try.prog 64 2 = some 2 := by kernel_rfl
theorem fo_ssi_tx_3 : fldOff Try.prog 64 3 = some 3 := by kernel_rfl
theorem fo_ssi_tx_4 : fldOff Try.prog 64 4 = some 4 := by kernel_rfl
theorem fo_ssi_tx_5 : fldOff Try.prog 64 5 = some 5 := by kernel_rfl
theorem fo_ssi_tx_6 : fldOff Try.prog 64 6 = some 6 := by kernel_rfl
theorem fo_ssi_tx_7 : fldOff Try.prog 64 7 = some 7 := by kernel_rfl
theorem sh_api_Read : Shape Try.prog 33 (fun i => #[(0, 1), (1, 1), (2, 3), (5, 3)][i]?) [.string ⟨#[]⟩, .int .i64 0, .int .i64 0, .int .i64 0, .string ⟨#[]⟩, .int .i64 0, .int .i64 0, .string ⟨#[]⟩] := ⟨fun _ => by kernel_rfl⟩
theorem sh_api_Value : Shape Try.prog 31 (fun i => #[(0, 1), (1, 1), (2, 1)][i]?) [.int .i64 0, .int .i64 0, .string ⟨#[]⟩] := ⟨fun _ => by kernel_rfl⟩
theorem sh_api_Write : Shape Try.prog 36 (fun i => #[(0, 1), (1, 1), (2, 1)][i]?) [.string ⟨#[]⟩, .slice none 0 0, .slice none 0 0] := ⟨fun _ => by kernel_rfl⟩
theorem sh_cadastreref20_Set : Shape Try.prog 29 (fun i => #[(0, 1), (1, 1)][i]?) [.slice none 0 0, .int .i64 0] := ⟨fun _ => by kernel_rfl⟩
theorem sh_cadastreref20_Tx : Shape Try.prog 49 (fun i => #[(0, 1), (1, 1), (2, 1), (3, 1), (4, 1)][i]?) [.int .i64 0, .int .i64 0, .int .i64 0, .slice none 0 0, .slice none 0 0] := ⟨fun _ => by kernel_rfl⟩
theorem sh_ssi_Set : Shape Try.prog 60 (fun i => #[(0, 1), (1, 1), (2, 1)][i]?) [.int .i64 0, .int .i64 0, .map none] := ⟨fun _ => by kernel_rfl⟩
theorem sh_ssi_tx : Shape Try.prog 64 (fun i => #[(0, 1), (1, 1), (2, 1), (3, 1), (4, 1), (5, 1), (6, 1), (7, 1)][i]?) [.int .i64 0, .int .i64 0, .slice none 0 0, .slice none 0 0, .map none, .map none, .bool false, .bool false] := ⟨fun _ => by kernel_rfl⟩
theorem sl_sl_api_Read : SlShape Try.prog 46 33 8 [.string ⟨#[]⟩, .int .i64 0, .int .i64 0, .int .i64 0, .string ⟨#[]⟩, .int .i64 0, .int .i64 0, .string ⟨#[]⟩] := ⟨by kernel_rfl, by kernel_rfl, by omega⟩
theorem sl_sl_api_Value : SlShape Try.prog 34 31 3 [.int .i64 0, .int .i64 0, .string ⟨#[]⟩] := ⟨by kernel_rfl, by kernel_rfl, by omega⟩
theorem sl_sl_api_Write : SlShape Try.prog 47 36 3 [.string ⟨#[]⟩, .slice none 0 0, .slice none 0 0] := ⟨by kernel_rfl, by kernel_rfl, by omega⟩
theorem sl_sl_cadastreref20_Tx : SlShape Try.prog 27 49 5 [.int .i64 0, .int .i64 0, .int .i64 0, .slice none 0 0, .slice none 0 0] := ⟨by kernel_rfl, by kernel_rfl, by omega⟩
theorem sl_sl_int : SlShape Try.prog 91 3 1 [.int .i64 0] := ⟨by kernel_rfl, by kernel_rfl, by omega⟩
theorem ss_api_Read : (Try.prog.info? 33).map (·.size) = some 8 := by kernel_rfl
theorem ss_api_Value : (Try.prog.info? 31).map (·.size) = some 3 := by kernel_rfl
theorem ss_bool : (Try.prog.info? 4).map (·.size) = some 1 := by kernel_rfl
theorem ss_cadastrelaw20_Op : (Try.prog.info? 38).map (·.size) = some 13 := by kernel_rfl
theorem ss_cadastreref20_Tx : (Try.prog.info? 49).map (·.size) = some 5 := by kernel_rfl
theorem ss_int : (Try.prog.info? 3).map (·.size) = some 1 := by kernel_rfl
theorem ss_sl_api_Read : (Try.prog.info? 46).map (·.size) = some 1 := by kernel_rfl
theorem ss_sl_api_Value : (Try.prog.info? 34).map (·.size) = some 1 := by kernel_rfl
theorem ss_sl_api_Write : (Try.prog.info? 47).map (·.size) = some 1 := by kernel_rfl
theorem ss_sl_cadastreref20_Tx : (Try.prog.info? 27).map (·.size) = some 1 := by kernel_rfl
theorem sz_api_Read : szOf Try.prog 33 = some (some 8) := by kernel_rfl
theorem sz_api_Value : szOf Try.prog 31 = some (some 3) := by kernel_rfl
theorem sz_api_Write : szOf Try.prog 36 = some (some 3) := by kernel_rfl
theorem sz_bool : szOf Try.prog 4 = some none := by kernel_rfl
theorem sz_cadastrelaw20_Op : szOf Try.prog 38 = some (some 13) := by kernel_rfl
theorem sz_cadastreref20_Tx : szOf Try.prog 49 = some (some 5) := by kernel_rfl
theorem sz_int : szOf Try.prog 3 = some none := by kernel_rfl
theorem sz_int64 : szOf Try.prog 2 = some none := by kernel_rfl
theorem sz_map_int_bool : szOf Try.prog 62 = some none := by kernel_rfl
theorem sz_map_int_p_ssi_tx : szOf Try.prog 58 = some none := by kernel_rfl
theorem sz_p_ssi_Set : szOf Try.prog 24 = some none := by kernel_rfl
theorem sz_sl_api_Read : szOf Try.prog 46 = some none := by kernel_rfl
theorem sz_sl_api_Value : szOf Try.prog 34 = some none := by kernel_rfl
theorem sz_sl_api_Write : szOf Try.prog 47 = some none := by kernel_rfl
theorem sz_sl_cadastreref20_Tx : szOf Try.prog 27 = some none := by kernel_rfl
theorem sz_string : szOf Try.prog 9 = some none := by kernel_rfl
theorem un_int : Try.prog.underlying 3 = some (.int .i64) := by kernel_rfl
theorem un_map_int_bool : Try.prog.underlying 62 = some (.map 3 4) := by kernel_rfl
theorem un_map_int_p_ssi_tx : Try.prog.underlying 58 = some (.map 3 61) := by kernel_rfl
theorem un_p_cadastreref20_Set : Try.prog.underlying 26 = some (.pointer 29) := by kernel_rfl
theorem un_p_ssi_Set : Try.prog.underlying 24 = some (.pointer 60) := by kernel_rfl
theorem un_p_ssi_tx : Try.prog.underlying 61 = some (.pointer 64) := by kernel_rfl
theorem un_sl_api_Read : Try.prog.underlying 46 = some (.slice 33) := by kernel_rfl
theorem un_sl_api_Value : Try.prog.underlying 34 = some (.slice 31) := by kernel_rfl
theorem un_sl_api_Write : Try.prog.underlying 47 = some (.slice 36) := by kernel_rfl
theorem un_sl_cadastrelaw20_Op : Try.prog.underlying 22 = some (.slice 38) := by kernel_rfl
theorem un_sl_cadastreref20_Tx : Try.prog.underlying 27 = some (.slice 49) := by kernel_rfl
theorem un_sl_int : Try.prog.underlying 91 = some (.slice 3) := by kernel_rfl
theorem zo_api_Read : zeroOf Try.prog 33 = some (.agg #[.string ⟨#[]⟩, .int .i64 0, .int .i64 0, .int .i64 0, .string ⟨#[]⟩, .int .i64 0, .int .i64 0, .string ⟨#[]⟩]) := by kernel_rfl
theorem zo_api_Value : zeroOf Try.prog 31 = some (.agg #[.int .i64 0, .int .i64 0, .string ⟨#[]⟩]) := by kernel_rfl
theorem zo_cadastrelaw20_Op : zeroOf Try.prog 38 = some (.agg #[.int .i64 0, .int .i64 0, .string ⟨#[]⟩, .int .i64 0, .int .i64 0, .int .i64 0, .string ⟨#[]⟩, .int .i64 0, .int .i64 0, .string ⟨#[]⟩, .string ⟨#[]⟩, .slice none 0 0, .slice none 0 0]) := by kernel_rfl
theorem zo_cadastreref20_Tx : zeroOf Try.prog 49 = some (.agg #[.int .i64 0, .int .i64 0, .int .i64 0, .slice none 0 0, .slice none 0 0]) := by kernel_rfl
theorem zo_p_ssi_tx : zeroOf Try.prog 61 = some (.pointer none) := by kernel_rfl
theorem hmx : Try.prog.follows .mixedOrders = true := by kernel_rfl
end Go.Proofs.Ytggmifnkgcladaa
