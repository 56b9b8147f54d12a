/- The closed facts on the types of the program. No condition. -/
import Derived.Test.YtgpikmonklainaaProg
import Derived.Test.YtgpikmonklainaaXG4
namespace Go.Proofs.Ytgpikmonklainaa
open Go Go.Vc
abbrev f_gosem_cut_init : Nat := 2
abbrev f_law15_OrderSorts : Nat := 3
abbrev f_law15_OrderTop : Nat := 4
abbrev f_law15_OrderAgain : Nat := 5
abbrev f_law16_GroupTells : Nat := 6
abbrev f_law16_GroupParts : Nat := 7
abbrev f_law16_GroupKeys : Nat := 8
abbrev f_law16_GroupWhole : Nat := 9
abbrev f_law15_awake : Nat := 10
abbrev f_order_Top : Nat := 11
abbrev f_ref15_Top : Nat := 12
abbrev f_ref15_Same : Nat := 13
abbrev f_order_Rows : Nat := 14
abbrev f_ref15_Rows : Nat := 15
abbrev f_law16_awake : Nat := 16
abbrev f_group_Rows : Nat := 17
abbrev f_ref16_Rows : Nat := 18
abbrev f_law16_none2 : Nat := 19
abbrev f_law16_num : Nat := 20
abbrev f_law15_num : Nat := 21
abbrev f_order_may : Nat := 22
abbrev f_container_heap_Push : Nat := 23
abbrev f_p_order_queue_Len : Nat := 24
abbrev f_container_heap_Pop : Nat := 25
abbrev f_slices_Clone_sl_api_Value_api_Value : Nat := 26
abbrev f_ref15_may : Nat := 27
abbrev f_ref15_ahead : Nat := 28
abbrev f_ref01_Same : Nat := 29
abbrev f_value_Compare : Nat := 30
abbrev f_cmp_Compare_int : Nat := 31
abbrev f_ref01_Compare : Nat := 32
abbrev f_group_check : Nat := 33
abbrev f_slices_SortStableFunc_sl_int_int : Nat := 34
abbrev f_group_Rows_1 : Nat := 35
abbrev f_group_Rows_2 : Nat := 36
abbrev f_group_made : Nat := 37
abbrev f_ref16_check : Nat := 38
abbrev f_ref16_tell : Nat := 39
abbrev f_slices_ContainsFunc_sl_api_Value_api_Value : Nat := 40
abbrev f_order_may_1 : Nat := 41
abbrev f_value_Ok : Nat := 42
abbrev f_container_heap_up : Nat := 43
abbrev f_container_heap_down : Nat := 44
abbrev f_ref01_Ok : Nat := 45
abbrev f_cmp_Or_int : Nat := 46
abbrev f_cmp_Compare_int64 : Nat := 47
abbrev f_cmp_Compare_string : Nat := 48
abbrev f_cmp_isNaN_int : Nat := 49
abbrev f_group_check_1 : Nat := 50
abbrev f_slices_ContainsFunc_sl_int_int : Nat := 51
abbrev f_group_check_2 : Nat := 52
abbrev f_slices_stableCmpFunc_int : Nat := 53
abbrev f_ref16_may : Nat := 54
abbrev f_ref16_sum : Nat := 55
abbrev f_slices_IndexFunc_sl_api_Value_api_Value : Nat := 56
abbrev f_cmp_isNaN_int64 : Nat := 57
abbrev f_cmp_isNaN_string : Nat := 58
abbrev f_slices_IndexFunc_sl_int_int : Nat := 59
abbrev f_slices_insertionSortCmpFunc_int : Nat := 60
abbrev f_slices_symMergeCmpFunc_int : Nat := 61
abbrev f_slices_rotateCmpFunc_int : Nat := 62
abbrev f_slices_swapRangeCmpFunc_int : Nat := 63
abbrev f_p_order_queue_Less : Nat := 80
abbrev f_p_order_queue_Pop : Nat := 81
abbrev f_p_order_queue_Push : Nat := 82
abbrev f_p_order_queue_Swap : Nat := 83
abbrev f_p_order_queue_compare : Nat := 84
abbrev f_p_group_counter_add : Nat := 85
abbrev f_p_group_counter_tell : Nat := 86
abbrev f_p_group_adder_add : Nat := 87
abbrev f_p_group_adder_tell : Nat := 88
abbrev f_p_group_picker_add : Nat := 90
abbrev f_p_group_picker_tell : Nat := 91
abbrev ty_ty_0 : Nat := 0
abbrev ty_int64 : Nat := 2
abbrev ty_int : Nat := 3
abbrev ty_bool : Nat := 4
abbrev ty_uint8 : Nat := 5
abbrev ty_abi_BoundsErrorCode : Nat := 6
abbrev ty_runtime_boundsError : Nat := 8
abbrev ty_string : Nat := 9
abbrev ty_runtime_errorString : Nat := 10
abbrev ty_runtime_plainError : Nat := 11
abbrev ty_uintptr : Nat := 12
abbrev ty_runtime_errorAddressString : Nat := 14
abbrev ty_p_runtime_TypeAssertionError : Nat := 15
abbrev ty_p_runtime_PanicNilError : Nat := 16
abbrev ty_p_abi_Type : Nat := 17
abbrev ty_maps_unhashableTypeError : Nat := 19
abbrev ty_interface : Nat := 20
abbrev ty_int32 : Nat := 21
abbrev ty_sl_sl_api_Value : Nat := 22
abbrev ty_sl_bool : Nat := 23
abbrev ty_cadastrelaw15_Ask : Nat := 25
abbrev ty_api_Errno : Nat := 27
abbrev ty_sl_sl_api_Value_api_Errno : Nat := 28
abbrev ty_sl_api_Value : Nat := 32
abbrev ty_sl_uint8 : Nat := 34
abbrev ty_api_Value : Nat := 36
abbrev ty_sl_int : Nat := 38
abbrev ty_cadastrelaw16_Ask : Nat := 40
abbrev ty_p_order_queue : Nat := 49
abbrev ty_sl_order_line : Nat := 50
abbrev ty_order_queue : Nat := 52
abbrev ty_order_line : Nat := 55
abbrev ty_sl_p_group_group : Nat := 65
abbrev ty_p_group_group : Nat := 66
abbrev ty_sl_group_teller : Nat := 67
abbrev ty_group_group : Nat := 69
abbrev ty_interface_group_add_api_Value_group_tell_api_Value_api_Errno : Nat := 70
abbrev ty_group_teller : Nat := 71
abbrev ty_api_Value_api_Errno : Nat := 75
abbrev ty_interface_Len_int_Less_int_int_bool_Pop_interface_Push_interface_Swap_int_int : Nat := 80
abbrev ty_heap_Interface : Nat := 81
abbrev ty_p_group_counter : Nat := 93
abbrev ty_group_counter : Nat := 95
abbrev ty_p_group_adder : Nat := 96
abbrev ty_uint64 : Nat := 97
abbrev ty_group_adder : Nat := 99
abbrev ty_p_group_picker : Nat := 100
abbrev ty_group_picker : Nat := 102
abbrev ty_sl_int64 : Nat := 103
abbrev ty_int64_bool : Nat := 104
abbrev ty_uint : Nat := 107
abbrev ty_runtime_TypeAssertionError : Nat := 116
abbrev ty_runtime_PanicNilError : Nat := 119
abbrev ty_uint32 : Nat := 120
abbrev ty_abi_TFlag : Nat := 121
abbrev ty_abi_Kind : Nat := 122
abbrev ty_p_uint8 : Nat := 124
abbrev ty_abi_NameOff : Nat := 125
abbrev ty_abi_TypeOff : Nat := 126
abbrev ty_abi_Type : Nat := 128
abbrev ty_uint64_uint64 : Nat := 130
abbrev ty_unsafe_Pointer : Nat := 132
theorem ap_sl_api_Value : ApTy Try.prog 32 36 3 32 := ⟨by kernel_rfl, by kernel_rfl⟩
theorem ap_sl_group_teller : ApTy Try.prog 67 71 1 16 := ⟨by kernel_rfl, by kernel_rfl⟩
theorem ap_sl_p_group_group : ApTy Try.prog 65 66 1 8 := ⟨by kernel_rfl, by kernel_rfl⟩
theorem ap_sl_sl_api_Value : ApTy Try.prog 22 32 1 24 := ⟨by kernel_rfl, by kernel_rfl⟩
theorem el_sl_api_Value : elSize Try.prog 32 = some 3 := by kernel_rfl
theorem el_sl_group_teller : elSize Try.prog 67 = some 1 := by kernel_rfl
theorem el_sl_int : elSize Try.prog 38 = some 1 := by kernel_rfl
theorem el_sl_p_group_group : elSize Try.prog 65 = some 1 := by kernel_rfl
theorem el_sl_sl_api_Value : elSize Try.prog 22 = some 1 := by kernel_rfl
theorem fo_api_Value_0 : fldOff Try.prog 36 0 = some 0 := by kernel_rfl
theorem fo_api_Value_1 : fldOff Try.prog 36 1 = some 1 := by kernel_rfl
theorem fo_api_Value_2 : fldOff Try.prog 36 2 = some 2 := by kernel_rfl
theorem fo_group_adder_0 : fldOff Try.prog 99 0 = some 0 := by kernel_rfl
theorem fo_group_adder_1 : fldOff Try.prog 99 1 = some 1 := by kernel_rfl
theorem fo_group_adder_2 : fldOff Try.prog 99 2 = some 2 := by kernel_rfl
theorem fo_group_counter_0 : fldOff Try.prog 95 0 = some 0 := by kernel_rfl
theorem fo_group_group_0 : fldOff Try.prog 69 0 = some 0 := by kernel_rfl
theorem fo_group_group_1 : fldOff Try.prog 69 1 = some 1 := by kernel_rfl
theorem fo_group_picker_0 : fldOff Try.prog 102 0 = some 0 := by kernel_rfl
theorem fo_group_picker_1 : fldOff Try.prog 102 1 = some 1 := by kernel_rfl
theorem sh_api_Value : Shape Try.prog 36 (fun i => #[(0, 1), (1, 1), (2, 1)][i]?) [.int .i64 0, .int .i64 0, .string ⟨#[]⟩] := ⟨fun _ => by kernel_rfl⟩
theorem sh_group_group : Shape Try.prog 69 (fun i => #[(0, 1), (1, 1)][i]?) [.slice none 0 0, .slice none 0 0] := ⟨fun _ => by kernel_rfl⟩
theorem sh_group_picker : Shape Try.prog 102 (fun i => #[(0, 1), (1, 3)][i]?) [.int .i64 0, .int .i64 0, .int .i64 0, .string ⟨#[]⟩] := ⟨fun _ => by kernel_rfl⟩
theorem sl_sl_api_Value : SlShape Try.prog 32 36 3 [.int .i64 0, .int .i64 0, .string ⟨#[]⟩] := ⟨by kernel_rfl, by kernel_rfl, by omega⟩
theorem sl_sl_bool : SlShape Try.prog 23 4 1 [.bool false] := ⟨by kernel_rfl, by kernel_rfl, by omega⟩
theorem sl_sl_group_teller : SlShape Try.prog 67 71 1 [.nilIface] := ⟨by kernel_rfl, by kernel_rfl, by omega⟩
theorem sl_sl_int : SlShape Try.prog 38 3 1 [.int .i64 0] := ⟨by kernel_rfl, by kernel_rfl, by omega⟩
theorem sl_sl_p_group_group : SlShape Try.prog 65 66 1 [.pointer none] := ⟨by kernel_rfl, by kernel_rfl, by omega⟩
theorem sl_sl_sl_api_Value : SlShape Try.prog 22 32 1 [.slice none 0 0] := ⟨by kernel_rfl, by kernel_rfl, by omega⟩
theorem ss_api_Value : (Try.prog.info? 36).map (·.size) = some 3 := by kernel_rfl
theorem ss_int : (Try.prog.info? 3).map (·.size) = some 1 := by kernel_rfl
theorem ss_int64 : (Try.prog.info? 2).map (·.size) = some 1 := by kernel_rfl
theorem ss_sl_group_teller : (Try.prog.info? 67).map (·.size) = some 1 := by kernel_rfl
theorem ss_sl_p_group_group : (Try.prog.info? 65).map (·.size) = some 1 := by kernel_rfl
theorem ss_uint64 : (Try.prog.info? 97).map (·.size) = some 1 := by kernel_rfl
theorem sz_api_Value : szOf Try.prog 36 = some (some 3) := by kernel_rfl
theorem sz_group_teller : szOf Try.prog 71 = some none := by kernel_rfl
theorem sz_int : szOf Try.prog 3 = some none := by kernel_rfl
theorem sz_int64 : szOf Try.prog 2 = some none := by kernel_rfl
theorem sz_p_group_group : szOf Try.prog 66 = some none := by kernel_rfl
theorem sz_sl_api_Value : szOf Try.prog 32 = some none := by kernel_rfl
theorem sz_sl_group_teller : szOf Try.prog 67 = some none := by kernel_rfl
theorem sz_sl_int : szOf Try.prog 38 = some none := by kernel_rfl
theorem sz_sl_p_group_group : szOf Try.prog 65 = some none := by kernel_rfl
theorem sz_sl_sl_api_Value : szOf Try.prog 22 = some none := by kernel_rfl
theorem sz_string : szOf Try.prog 9 = some none := by kernel_rfl
theorem sz_uint64 : szOf Try.prog 97 = some none := by kernel_rfl
theorem un_int : Try.prog.underlying 3 = some (.int .i64) := by kernel_rfl
theorem un_int64 : Try.prog.underlying 2 = some (.int .i64) := by kernel_rfl
theorem un_sl_api_Value : Try.prog.underlying 32 = some (.slice 36) := by kernel_rfl
theorem un_sl_group_teller : Try.prog.underlying 67 = some (.slice 71) := by kernel_rfl
theorem un_sl_int : Try.prog.underlying 38 = some (.slice 3) := by kernel_rfl
theorem un_sl_p_group_group : Try.prog.underlying 65 = some (.slice 66) := by kernel_rfl
theorem un_sl_sl_api_Value : Try.prog.underlying 22 = some (.slice 32) := by kernel_rfl
theorem un_string : Try.prog.underlying 9 = some .string := by kernel_rfl
theorem un_uint : Try.prog.underlying 107 = some (.int .u64) := by kernel_rfl
theorem un_uint64 : Try.prog.underlying 97 = some (.int .u64) := by kernel_rfl
theorem un_uint8 : Try.prog.underlying 5 = some (.int .u8) := by kernel_rfl
theorem zo_api_Value : zeroOf Try.prog 36 = some (.agg #[.int .i64 0, .int .i64 0, .string ⟨#[]⟩]) := by kernel_rfl
theorem zo_group_adder : zeroOf Try.prog 99 = some (.agg #[.int .i64 0, .int .u64 0, .int .u64 0]) := by kernel_rfl
theorem zo_group_counter : zeroOf Try.prog 95 = some (.agg #[.int .i64 0]) := by kernel_rfl
theorem zo_sl_p_group_group : zeroOf Try.prog 65 = some (.slice none 0 0) := by kernel_rfl
theorem hmx : Try.prog.follows .mixedOrders = true := by kernel_rfl
end Go.Proofs.Ytgpikmonklainaa
