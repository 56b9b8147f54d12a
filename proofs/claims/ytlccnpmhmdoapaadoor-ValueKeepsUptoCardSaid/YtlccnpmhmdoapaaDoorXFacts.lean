/- The closed facts on the types of the program. No condition. -/
import Derived.Test.YtlccnpmhmdoapaaDoorProg
import Derived.Test.YtlccnpmhmdoapaaDoorXG4
namespace Go.Proofs.YtlccnpmhmdoapaaDoor
open Go Go.Vc
abbrev f_gosem_cut_init : Nat := 2
abbrev f_law01_ValueAll : Nat := 3
abbrev f_law01_ValueOrder : Nat := 4
abbrev f_law01_ValueApart : Nat := 5
abbrev f_law01_ValueShows : Nat := 6
abbrev f_law01_ValueReads : Nat := 7
abbrev f_law01_ValueKeys : Nat := 8
abbrev f_law01_ValueBack : Nat := 9
abbrev f_law01_ValueKeeps : Nat := 10
abbrev f_law01_ValueCuts : Nat := 11
abbrev f_law01_awake : Nat := 12
abbrev f_value_Key : Nat := 13
abbrev f_ref01_Key : Nat := 14
abbrev f_value_Ok : Nat := 15
abbrev f_ref01_Ok : Nat := 16
abbrev f_value_Compare : Nat := 17
abbrev f_ref01_Compare : Nat := 18
abbrev f_value_Show : Nat := 19
abbrev f_ref01_Show : Nat := 20
abbrev f_value_FromKey : Nat := 21
abbrev f_ref01_FromKey : Nat := 22
abbrev f_value_Get : Nat := 23
abbrev f_ref01_Get : Nat := 24
abbrev f_ref01_Same : Nat := 25
abbrev f_value_Put : Nat := 26
abbrev f_ref01_Put : Nat := 27
abbrev f_value_eight : Nat := 28
abbrev f_strings_ReplaceAll : Nat := 29
abbrev f_ref01_Eight : Nat := 30
abbrev f_cmp_Or_int : Nat := 31
abbrev f_cmp_Compare_int : Nat := 32
abbrev f_cmp_Compare_int64 : Nat := 33
abbrev f_cmp_Compare_string : Nat := 34
abbrev f_strconv_FormatInt : Nat := 35
abbrev f_strings_ToUpper : Nat := 36
abbrev f_strconv_FormatBool : Nat := 37
abbrev f_value_number : Nat := 38
abbrev f_p_value_reader_take : Nat := 39
abbrev f_p_value_reader_value : Nat := 40
abbrev f_p_value_reader_must : Nat := 41
abbrev f_strings_Replace : Nat := 42
abbrev f_cmp_isNaN_int : Nat := 43
abbrev f_cmp_isNaN_int64 : Nat := 44
abbrev f_cmp_isNaN_string : Nat := 45
abbrev f_internal_strconv_FormatInt : Nat := 46
abbrev f_p_strings_Builder_Grow : Nat := 47
abbrev f_p_strings_Builder_WriteString : Nat := 48
abbrev f_p_strings_Builder_WriteByte : Nat := 49
abbrev f_p_strings_Builder_String : Nat := 50
abbrev f_strings_Map : Nat := 51
abbrev f_unicode_ToUpper : Nat := 52
abbrev f_internal_strconv_FormatBool : Nat := 53
abbrev f_strings_Count : Nat := 54
abbrev f_strings_Index : Nat := 55
abbrev f_unicode_utf8_DecodeRuneInString : Nat := 56
abbrev f_internal_strconv_small : Nat := 57
abbrev f_internal_strconv_numDigits : Nat := 58
abbrev f_internal_strconv_formatBase10 : Nat := 59
abbrev f_internal_strconv_formatBits : Nat := 60
abbrev f_p_strings_Builder_copyCheck : Nat := 61
abbrev f_p_strings_Builder_grow : Nat := 62
abbrev f_unicode_utf8_RuneLen : Nat := 63
abbrev f_p_strings_Builder_WriteRune : Nat := 64
abbrev f_p_strings_Builder_Cap : Nat := 65
abbrev f_unicode_To : Nat := 66
abbrev f_unicode_utf8_RuneCountInString : Nat := 67
abbrev f_internal_stringslite_Index : Nat := 69
abbrev f_unicode_utf8_decodeRuneInStringSlow : Nat := 70
abbrev f_internal_strconv_log10Pow2 : Nat := 71
abbrev f_math_bits_Len64 : Nat := 72
abbrev f_internal_strconv_bool2_int : Nat := 73
abbrev f_internal_strconv_isPowerOfTwo : Nat := 74
abbrev f_math_bits_TrailingZeros : Nat := 75
abbrev f_unicode_utf8_AppendRune : Nat := 78
abbrev f_unicode_to : Nat := 79
abbrev f_internal_stringslite_IndexByte : Nat := 80
abbrev f_internal_bytealg_Cutover : Nat := 82
abbrev f_internal_bytealg_IndexRabinKarp_string : Nat := 83
abbrev f_math_bits_TrailingZeros32 : Nat := 84
abbrev f_math_bits_TrailingZeros64 : Nat := 85
abbrev f_unicode_utf8_appendRuneNonASCII : Nat := 86
abbrev f_unicode_lookupCaseRange : Nat := 87
abbrev f_unicode_convertCase : Nat := 88
abbrev f_internal_bytealg_hashStr_string : Nat := 90
abbrev f_gosem_cut_vars : Nat := 116
abbrev ty_ty_0 : Nat := 0
abbrev ty_int64 : Nat := 2
abbrev ty_int : Nat := 3
abbrev ty_bool : Nat := 4
abbrev ty_uint8 : Nat := 5
abbrev ty_abi_BoundsErrorCode : Nat := 6
abbrev ty_runtime_boundsError : Nat := 8
abbrev ty_string : Nat := 9
abbrev ty_runtime_errorString : Nat := 10
abbrev ty_runtime_plainError : Nat := 11
abbrev ty_uintptr : Nat := 12
abbrev ty_runtime_errorAddressString : Nat := 14
abbrev ty_p_runtime_TypeAssertionError : Nat := 15
abbrev ty_p_runtime_PanicNilError : Nat := 16
abbrev ty_p_abi_Type : Nat := 17
abbrev ty_maps_unhashableTypeError : Nat := 19
abbrev ty_interface : Nat := 20
abbrev ty_int32 : Nat := 21
abbrev ty_api_Value : Nat := 23
abbrev ty_sl_uint8 : Nat := 25
abbrev ty_api_Errno : Nat := 26
abbrev ty_sl_uint8_api_Errno : Nat := 27
abbrev ty_api_Value_api_Errno : Nat := 34
abbrev ty_sl_api_Value : Nat := 36
abbrev ty_sl_api_Value_api_Errno : Nat := 37
abbrev ty_uint64 : Nat := 47
abbrev ty_uint : Nat := 50
abbrev ty_p_value_reader : Nat := 59
abbrev ty_value_reader : Nat := 61
abbrev ty_sl_int : Nat := 67
abbrev ty_p_strings_Builder : Nat := 71
abbrev ty_strings_Builder : Nat := 73
abbrev ty_interface_Error_string : Nat := 75
abbrev ty_error : Nat := 76
abbrev ty_int_error : Nat := 77
abbrev ty_int32_int : Nat := 83
abbrev ty_sl_uint8_string : Nat := 89
abbrev ty_p_uint8 : Nat := 91
abbrev ty_uint32 : Nat := 101
abbrev ty_unsafe_Pointer : Nat := 104
abbrev ty_int32_bool : Nat := 107
abbrev ty_sl_unicode_CaseRange : Nat := 109
abbrev ty_utf8_acceptRange : Nat := 112
abbrev ty_p_unicode_CaseRange : Nat := 115
abbrev ty_uint32_uint32 : Nat := 118
abbrev ty_unicode_d : Nat := 123
abbrev ty_unicode_CaseRange : Nat := 125
abbrev ty_runtime_TypeAssertionError : Nat := 127
abbrev ty_runtime_PanicNilError : Nat := 130
abbrev ty_abi_TFlag : Nat := 131
abbrev ty_abi_Kind : Nat := 132
abbrev ty_abi_NameOff : Nat := 134
abbrev ty_abi_TypeOff : Nat := 135
abbrev ty_abi_Type : Nat := 137
theorem ap_sl_api_Value : ApTy Tryd.prog 36 23 3 32 := ⟨by kernel_rfl, by kernel_rfl⟩
theorem ap_sl_uint8 : ApTy Tryd.prog 25 5 1 1 := ⟨by kernel_rfl, by kernel_rfl⟩
theorem el_sl_api_Value : elSize Tryd.prog 36 = some 3 := by kernel_rfl
theorem el_sl_int : elSize Tryd.prog 67 = some 1 := by kernel_rfl
theorem el_sl_uint8 : elSize Tryd.prog 25 = some 1 := by kernel_rfl
theorem el_sl_unicode_CaseRange : elSize Tryd.prog 109 = some 5 := by kernel_rfl
theorem fo_api_Value_0 : fldOff Tryd.prog 23 0 = some 0 := by kernel_rfl
theorem fo_api_Value_1 : fldOff Tryd.prog 23 1 = some 1 := by kernel_rfl
theorem fo_api_Value_2 : fldOff Tryd.prog 23 2 = some 2 := by kernel_rfl
theorem fo_strings_Builder_0 : fldOff Tryd.prog 73 0 = some 0 := by kernel_rfl
theorem fo_strings_Builder_1 : fldOff Tryd.prog 73 1 = some 1 := by kernel_rfl
theorem fo_unicode_CaseRange_0 : fldOff Tryd.prog 125 0 = some 0 := by kernel_rfl
theorem fo_unicode_CaseRange_1 : fldOff Tryd.prog 125 1 = some 1 := by kernel_rfl
theorem fo_unicode_CaseRange_2 : fldOff Tryd.prog 125 2 = some 2 := by kernel_rfl
theorem fo_utf8_acceptRange_0 : fldOff Tryd.prog 112 0 = some 0 := by kernel_rfl
theorem fo_utf8_acceptRange_1 : fldOff Tryd.prog 112 1 = some 1 := by kernel_rfl
theorem fo_value_reader_0 : fldOff Tryd.prog 61 0 = some 0 := by kernel_rfl
theorem fo_value_reader_1 : fldOff Tryd.prog 61 1 = some 1 := by kernel_rfl
theorem sh_16_utf8_acceptRange : Shape Tryd.prog 113 (fun i => some (i * 2, 2)) [.int .u8 0, .int .u8 0, .int .u8 0, .int .u8 0, .int .u8 0, .int .u8 0, .int .u8 0, .int .u8 0, .int .u8 0, .int .u8 0, .int .u8 0, .int .u8 0, .int .u8 0, .int .u8 0, .int .u8 0, .int .u8 0, .int .u8 0, .int .u8 0, .int .u8 0, .int .u8 0, .int .u8 0, .int .u8 0, .int .u8 0, .int .u8 0, .int .u8 0, .int .u8 0, .int .u8 0, .int .u8 0, .int .u8 0, .int .u8 0, .int .u8 0, .int .u8 0] := ⟨fun _ => by kernel_rfl⟩
theorem sh_20_uint64 : Shape Tryd.prog 100 (fun i => some (i * 1, 1)) [.int .u64 0, .int .u64 0, .int .u64 0, .int .u64 0, .int .u64 0, .int .u64 0, .int .u64 0, .int .u64 0, .int .u64 0, .int .u64 0, .int .u64 0, .int .u64 0, .int .u64 0, .int .u64 0, .int .u64 0, .int .u64 0, .int .u64 0, .int .u64 0, .int .u64 0, .int .u64 0] := ⟨fun _ => by kernel_rfl⟩
theorem sh_32_uint8 : Shape Tryd.prog 120 (fun i => some (i * 1, 1)) [.int .u8 0, .int .u8 0, .int .u8 0, .int .u8 0, .int .u8 0, .int .u8 0, .int .u8 0, .int .u8 0, .int .u8 0, .int .u8 0, .int .u8 0, .int .u8 0, .int .u8 0, .int .u8 0, .int .u8 0, .int .u8 0, .int .u8 0, .int .u8 0, .int .u8 0, .int .u8 0, .int .u8 0, .int .u8 0, .int .u8 0, .int .u8 0, .int .u8 0, .int .u8 0, .int .u8 0, .int .u8 0, .int .u8 0, .int .u8 0, .int .u8 0, .int .u8 0] := ⟨fun _ => by kernel_rfl⟩
theorem sh_4_int : Shape Tryd.prog 65 (fun i => some (i * 1, 1)) [.int .i64 0, .int .i64 0, .int .i64 0, .int .i64 0] := ⟨fun _ => by kernel_rfl⟩
theorem sh_64_uint8 : Shape Tryd.prog 121 (fun i => some (i * 1, 1)) [.int .u8 0, .int .u8 0, .int .u8 0, .int .u8 0, .int .u8 0, .int .u8 0, .int .u8 0, .int .u8 0, .int .u8 0, .int .u8 0, .int .u8 0, .int .u8 0, .int .u8 0, .int .u8 0, .int .u8 0, .int .u8 0, .int .u8 0, .int .u8 0, .int .u8 0, .int .u8 0, .int .u8 0, .int .u8 0, .int .u8 0, .int .u8 0, .int .u8 0, .int .u8 0, .int .u8 0, .int .u8 0, .int .u8 0, .int .u8 0, .int .u8 0, .int .u8 0, .int .u8 0, .int .u8 0, .int .u8 0, .int .u8 0, .int .u8 0, .int .u8 0, .int .u8 0, .int .u8 0, .int .u8 0, .int .u8 0, .int .u8 0, .int .u8 0, .int .u8 0, .int .u8 0, .int .u8 0, .int .u8 0, .int .u8 0, .int .u8 0, .int .u8 0, .int .u8 0, .int .u8 0, .int .u8 0, .int .u8 0, .int .u8 0, .int .u8 0, .int .u8 0, .int .u8 0, .int .u8 0, .int .u8 0, .int .u8 0, .int .u8 0, .int .u8 0] := ⟨fun _ => by kernel_rfl⟩
theorem sh_api_Value : Shape Tryd.prog 23 (fun i => #[(0, 1), (1, 1), (2, 1)][i]?) [.int .i64 0, .int .i64 0, .string ⟨#[]⟩] := ⟨fun _ => by kernel_rfl⟩
theorem sh_utf8_acceptRange : Shape Tryd.prog 112 (fun i => #[(0, 1), (1, 1)][i]?) [.int .u8 0, .int .u8 0] := ⟨fun _ => by kernel_rfl⟩
theorem sh_value_reader : Shape Tryd.prog 61 (fun i => #[(0, 1), (1, 1)][i]?) [.slice none 0 0, .int .i64 0] := ⟨fun _ => by kernel_rfl⟩
theorem sl_sl_api_Value : SlShape Tryd.prog 36 23 3 [.int .i64 0, .int .i64 0, .string ⟨#[]⟩] := ⟨by kernel_rfl, by kernel_rfl, by omega⟩
theorem sl_sl_int : SlShape Tryd.prog 67 3 1 [.int .i64 0] := ⟨by kernel_rfl, by kernel_rfl, by omega⟩
theorem sl_sl_uint8 : SlShape Tryd.prog 25 5 1 [.int .u8 0] := ⟨by kernel_rfl, by kernel_rfl, by omega⟩
theorem ss_16_utf8_acceptRange : (Tryd.prog.info? 113).map (·.size) = some 32 := by kernel_rfl
theorem ss_20_uint64 : (Tryd.prog.info? 100).map (·.size) = some 20 := by kernel_rfl
theorem ss_32_uint8 : (Tryd.prog.info? 120).map (·.size) = some 32 := by kernel_rfl
theorem ss_64_uint8 : (Tryd.prog.info? 121).map (·.size) = some 64 := by kernel_rfl
theorem ss_api_Errno : (Tryd.prog.info? 26).map (·.size) = some 1 := by kernel_rfl
theorem ss_api_Value : (Tryd.prog.info? 23).map (·.size) = some 3 := by kernel_rfl
theorem ss_int : (Tryd.prog.info? 3).map (·.size) = some 1 := by kernel_rfl
theorem ss_int64 : (Tryd.prog.info? 2).map (·.size) = some 1 := by kernel_rfl
theorem ss_p_strings_Builder : (Tryd.prog.info? 71).map (·.size) = some 1 := by kernel_rfl
theorem ss_sl_uint8 : (Tryd.prog.info? 25).map (·.size) = some 1 := by kernel_rfl
theorem ss_string : (Tryd.prog.info? 9).map (·.size) = some 1 := by kernel_rfl
theorem ss_uint8 : (Tryd.prog.info? 5).map (·.size) = some 1 := by kernel_rfl
theorem ss_utf8_acceptRange : (Tryd.prog.info? 112).map (·.size) = some 2 := by kernel_rfl
theorem sz_api_Errno : szOf Tryd.prog 26 = some none := by kernel_rfl
theorem sz_api_Value : szOf Tryd.prog 23 = some (some 3) := by kernel_rfl
theorem sz_int : szOf Tryd.prog 3 = some none := by kernel_rfl
theorem sz_int32 : szOf Tryd.prog 21 = some none := by kernel_rfl
theorem sz_int64 : szOf Tryd.prog 2 = some none := by kernel_rfl
theorem sz_p_strings_Builder : szOf Tryd.prog 71 = some none := by kernel_rfl
theorem sz_sl_uint8 : szOf Tryd.prog 25 = some none := by kernel_rfl
theorem sz_sl_unicode_CaseRange : szOf Tryd.prog 109 = some none := by kernel_rfl
theorem sz_string : szOf Tryd.prog 9 = some none := by kernel_rfl
theorem sz_uint32 : szOf Tryd.prog 101 = some none := by kernel_rfl
theorem sz_uint64 : szOf Tryd.prog 47 = some none := by kernel_rfl
theorem sz_uint8 : szOf Tryd.prog 5 = some none := by kernel_rfl
theorem sz_utf8_acceptRange : szOf Tryd.prog 112 = some (some 2) := by kernel_rfl
theorem un_bool : Tryd.prog.underlying 4 = some .bool := by kernel_rfl
theorem un_int : Tryd.prog.underlying 3 = some (.int .i64) := by kernel_rfl
theorem un_int32 : Tryd.prog.underlying 21 = some (.int .i32) := by kernel_rfl
theorem un_int64 : Tryd.prog.underlying 2 = some (.int .i64) := by kernel_rfl
theorem un_sl_api_Value : Tryd.prog.underlying 36 = some (.slice 23) := by kernel_rfl
theorem un_sl_int : Tryd.prog.underlying 67 = some (.slice 3) := by kernel_rfl
theorem un_sl_uint8 : Tryd.prog.underlying 25 = some (.slice 5) := by kernel_rfl
theorem un_sl_unicode_CaseRange : Tryd.prog.underlying 109 = some (.slice 125) := by kernel_rfl
theorem un_string : Tryd.prog.underlying 9 = some .string := by kernel_rfl
theorem un_uint : Tryd.prog.underlying 50 = some (.int .u64) := by kernel_rfl
theorem un_uint32 : Tryd.prog.underlying 101 = some (.int .u32) := by kernel_rfl
theorem un_uint64 : Tryd.prog.underlying 47 = some (.int .u64) := by kernel_rfl
theorem un_uint8 : Tryd.prog.underlying 5 = some (.int .u8) := by kernel_rfl
theorem zo_24_uint8 : zeroOf Tryd.prog 86 = some (.agg #[.int .u8 0, .int .u8 0, .int .u8 0, .int .u8 0, .int .u8 0, .int .u8 0, .int .u8 0, .int .u8 0, .int .u8 0, .int .u8 0, .int .u8 0, .int .u8 0, .int .u8 0, .int .u8 0, .int .u8 0, .int .u8 0, .int .u8 0, .int .u8 0, .int .u8 0, .int .u8 0, .int .u8 0, .int .u8 0, .int .u8 0, .int .u8 0]) := by kernel_rfl
theorem zo_api_Value : zeroOf Tryd.prog 23 = some (.agg #[.int .i64 0, .int .i64 0, .string ⟨#[]⟩]) := by kernel_rfl
theorem zo_strings_Builder : zeroOf Tryd.prog 73 = some (.agg #[.pointer none, .slice none 0 0]) := by kernel_rfl
theorem zo_utf8_acceptRange : zeroOf Tryd.prog 112 = some (.agg #[.int .u8 0, .int .u8 0]) := by kernel_rfl
theorem hmx : Tryd.prog.follows .mixedOrders = true := by kernel_rfl
end Go.Proofs.YtlccnpmhmdoapaaDoor
