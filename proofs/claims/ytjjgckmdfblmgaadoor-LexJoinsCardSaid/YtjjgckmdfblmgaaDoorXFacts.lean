/- The closed facts on the types of the program. No condition. -/
import Derived.Test.YtjjgckmdfblmgaaDoorProg
import Derived.Test.YtjjgckmdfblmgaaDoorXG3
namespace Go.Proofs.YtjjgckmdfblmgaaDoor
open Go Go.Vc
abbrev f_gosem_cut_init : Nat := 2
abbrev f_law09_LexCuts : Nat := 3
abbrev f_law09_LexLimits : Nat := 4
abbrev f_law09_LexParts : Nat := 5
abbrev f_law09_LexCase : Nat := 6
abbrev f_law09_LexJoins : Nat := 7
abbrev f_law09_awake : Nat := 8
abbrev f_lex_All : Nat := 9
abbrev f_ref09_All : Nat := 10
abbrev f_ref09_Same : Nat := 11
abbrev f_value_Show : Nat := 12
abbrev f_p_lex_scanner_space : Nat := 13
abbrev f_p_lex_scanner_take : Nat := 14
abbrev f_ref09_class : Nat := 15
abbrev f_ref09_word : Nat := 16
abbrev f_ref09_number : Nat := 17
abbrev f_ref09_quoted : Nat := 18
abbrev f_ref09_sign : Nat := 19
abbrev f_value_Ok : Nat := 20
abbrev f_strconv_FormatInt : Nat := 21
abbrev f_strings_ToUpper : Nat := 22
abbrev f_strconv_FormatBool : Nat := 23
abbrev f_strings_ReplaceAll : Nat := 24
abbrev f_strings_IndexByte : Nat := 25
abbrev f_lex_letter : Nat := 26
abbrev f_p_lex_scanner_word : Nat := 27
abbrev f_lex_digit : Nat := 28
abbrev f_p_lex_scanner_number : Nat := 29
abbrev f_p_lex_scanner_text : Nat := 30
abbrev f_p_lex_scanner_sign : Nat := 31
abbrev f_ref09_upper : Nat := 32
abbrev f_ref09_Words : Nat := 33
abbrev f_internal_strconv_FormatInt : Nat := 34
abbrev f_p_strings_Builder_Grow : Nat := 35
abbrev f_p_strings_Builder_WriteString : Nat := 36
abbrev f_p_strings_Builder_WriteByte : Nat := 37
abbrev f_p_strings_Builder_String : Nat := 38
abbrev f_strings_Map : Nat := 39
abbrev f_unicode_ToUpper : Nat := 40
abbrev f_internal_strconv_FormatBool : Nat := 41
abbrev f_strings_Replace : Nat := 42
abbrev f_internal_stringslite_IndexByte : Nat := 43
abbrev f_p_lex_scanner_run : Nat := 44
abbrev f_p_lex_scanner_word_1 : Nat := 45
abbrev f_strings_Contains : Nat := 46
abbrev f_strings_ToLower : Nat := 47
abbrev f_internal_strconv_small : Nat := 48
abbrev f_internal_strconv_numDigits : Nat := 49
abbrev f_internal_strconv_formatBase10 : Nat := 50
abbrev f_internal_strconv_formatBits : Nat := 51
abbrev f_p_strings_Builder_copyCheck : Nat := 52
abbrev f_p_strings_Builder_grow : Nat := 53
abbrev f_unicode_utf8_DecodeRuneInString : Nat := 54
abbrev f_unicode_utf8_RuneLen : Nat := 55
abbrev f_p_strings_Builder_WriteRune : Nat := 56
abbrev f_p_strings_Builder_Cap : Nat := 57
abbrev f_unicode_To : Nat := 58
abbrev f_strings_Count : Nat := 59
abbrev f_strings_Index : Nat := 60
abbrev f_unicode_ToLower : Nat := 62
abbrev f_internal_strconv_log10Pow2 : Nat := 63
abbrev f_math_bits_Len64 : Nat := 64
abbrev f_internal_strconv_bool2_int : Nat := 65
abbrev f_internal_strconv_isPowerOfTwo : Nat := 66
abbrev f_math_bits_TrailingZeros : Nat := 67
abbrev f_unicode_utf8_decodeRuneInStringSlow : Nat := 70
abbrev f_unicode_utf8_AppendRune : Nat := 71
abbrev f_unicode_to : Nat := 72
abbrev f_unicode_utf8_RuneCountInString : Nat := 73
abbrev f_internal_stringslite_Index : Nat := 75
abbrev f_math_bits_TrailingZeros32 : Nat := 76
abbrev f_math_bits_TrailingZeros64 : Nat := 77
abbrev f_unicode_utf8_appendRuneNonASCII : Nat := 78
abbrev f_unicode_lookupCaseRange : Nat := 79
abbrev f_unicode_convertCase : Nat := 80
abbrev f_internal_bytealg_Cutover : Nat := 82
abbrev f_internal_bytealg_IndexRabinKarp_string : Nat := 83
abbrev f_internal_bytealg_hashStr_string : Nat := 84
abbrev f_gosem_cut_vars : Nat := 110
abbrev ty_ty_0 : Nat := 0
abbrev ty_int64 : Nat := 2
abbrev ty_int : Nat := 3
abbrev ty_bool : Nat := 4
abbrev ty_uint8 : Nat := 5
abbrev ty_abi_BoundsErrorCode : Nat := 6
abbrev ty_runtime_boundsError : Nat := 8
abbrev ty_string : Nat := 9
abbrev ty_runtime_errorString : Nat := 10
abbrev ty_runtime_plainError : Nat := 11
abbrev ty_uintptr : Nat := 12
abbrev ty_runtime_errorAddressString : Nat := 14
abbrev ty_p_runtime_TypeAssertionError : Nat := 15
abbrev ty_p_runtime_PanicNilError : Nat := 16
abbrev ty_p_abi_Type : Nat := 17
abbrev ty_maps_unhashableTypeError : Nat := 19
abbrev ty_interface : Nat := 20
abbrev ty_int32 : Nat := 21
abbrev ty_sl_api_Token : Nat := 23
abbrev ty_api_Errno : Nat := 24
abbrev ty_sl_api_Token_api_Errno : Nat := 25
abbrev ty_sl_uint8 : Nat := 29
abbrev ty_api_Token : Nat := 31
abbrev ty_api_Value : Nat := 36
abbrev ty_p_lex_scanner : Nat := 37
abbrev ty_lex_scanner : Nat := 39
abbrev ty_api_Token_api_Errno : Nat := 40
abbrev ty_int64_bool : Nat := 45
abbrev ty_string_int : Nat := 47
abbrev ty_sl_string : Nat := 58
abbrev ty_uint64 : Nat := 60
abbrev ty_uint : Nat := 61
abbrev ty_p_strings_Builder : Nat := 62
abbrev ty_strings_Builder : Nat := 64
abbrev ty_interface_Error_string : Nat := 66
abbrev ty_error : Nat := 67
abbrev ty_int_error : Nat := 68
abbrev ty_sl_uint8_string : Nat := 80
abbrev ty_p_uint8 : Nat := 82
abbrev ty_int32_int : Nat := 83
abbrev ty_uint32 : Nat := 93
abbrev ty_unsafe_Pointer : Nat := 97
abbrev ty_int32_bool : Nat := 101
abbrev ty_sl_unicode_CaseRange : Nat := 103
abbrev ty_utf8_acceptRange : Nat := 107
abbrev ty_p_unicode_CaseRange : Nat := 109
abbrev ty_unicode_d : Nat := 115
abbrev ty_unicode_CaseRange : Nat := 117
abbrev ty_uint32_uint32 : Nat := 118
abbrev ty_runtime_TypeAssertionError : Nat := 121
abbrev ty_runtime_PanicNilError : Nat := 124
abbrev ty_abi_TFlag : Nat := 125
abbrev ty_abi_Kind : Nat := 126
abbrev ty_abi_NameOff : Nat := 128
abbrev ty_abi_TypeOff : Nat := 129
abbrev ty_abi_Type : Nat := 131
theorem ap_sl_api_Token : ApTy Tryd.prog 23 31 3 32 := ⟨by kernel_rfl, by kernel_rfl⟩
theorem ap_sl_uint8 : ApTy Tryd.prog 29 5 1 1 := ⟨by kernel_rfl, by kernel_rfl⟩
theorem el_sl_api_Token : elSize Tryd.prog 23 = some 3 := by kernel_rfl
theorem el_sl_string : elSize Tryd.prog 58 = some 1 := by kernel_rfl
theorem el_sl_uint8 : elSize Tryd.prog 29 = some 1 := by kernel_rfl
theorem el_sl_unicode_CaseRange : elSize Tryd.prog 103 = some 5 := by kernel_rfl
theorem fo_api_Token_0 : fldOff Tryd.prog 31 0 = some 0 := by kernel_rfl
theorem fo_api_Token_1 : fldOff Tryd.prog 31 1 = some 1 := by kernel_rfl
theorem fo_api_Token_2 : fldOff Tryd.prog 31 2 = some 2 := by kernel_rfl
theorem fo_api_Value_0 : fldOff Tryd.prog 36 0 = some 0 := by kernel_rfl
theorem fo_api_Value_1 : fldOff Tryd.prog 36 1 = some 1 := by kernel_rfl
theorem fo_api_Value_2 : fldOff Tryd.prog 36 2 = some 2 := by kernel_rfl
theorem fo_lex_scanner_0 : fldOff Tryd.prog 39 0 = some 0 := by kernel_rfl
theorem fo_lex_scanner_1 : fldOff Tryd.prog 39 1 = some 1 := by kernel_rfl
theorem fo_strings_Builder_0 : fldOff Tryd.prog 64 0 = some 0 := by kernel_rfl
theorem fo_strings_Builder_1 : fldOff Tryd.prog 64 1 = some 1 := by kernel_rfl
theorem fo_unicode_CaseRange_0 : fldOff Tryd.prog 117 0 = some 0 := by kernel_rfl
theorem fo_unicode_CaseRange_1 : fldOff Tryd.prog 117 1 = some 1 := by kernel_rfl
theorem fo_unicode_CaseRange_2 : fldOff Tryd.prog 117 2 = some 2 := by kernel_rfl
theorem fo_utf8_acceptRange_0 : fldOff Tryd.prog 107 0 = some 0 := by kernel_rfl
theorem fo_utf8_acceptRange_1 : fldOff Tryd.prog 107 1 = some 1 := by kernel_rfl
theorem sh_16_utf8_acceptRange : Shape Tryd.prog 108 (fun i => some (i * 2, 2)) [.int .u8 0, .int .u8 0, .int .u8 0, .int .u8 0, .int .u8 0, .int .u8 0, .int .u8 0, .int .u8 0, .int .u8 0, .int .u8 0, .int .u8 0, .int .u8 0, .int .u8 0, .int .u8 0, .int .u8 0, .int .u8 0, .int .u8 0, .int .u8 0, .int .u8 0, .int .u8 0, .int .u8 0, .int .u8 0, .int .u8 0, .int .u8 0, .int .u8 0, .int .u8 0, .int .u8 0, .int .u8 0, .int .u8 0, .int .u8 0, .int .u8 0, .int .u8 0] := ⟨fun _ => by kernel_rfl⟩
theorem sh_20_uint64 : Shape Tryd.prog 92 (fun i => some (i * 1, 1)) [.int .u64 0, .int .u64 0, .int .u64 0, .int .u64 0, .int .u64 0, .int .u64 0, .int .u64 0, .int .u64 0, .int .u64 0, .int .u64 0, .int .u64 0, .int .u64 0, .int .u64 0, .int .u64 0, .int .u64 0, .int .u64 0, .int .u64 0, .int .u64 0, .int .u64 0, .int .u64 0] := ⟨fun _ => by kernel_rfl⟩
theorem sh_32_uint8 : Shape Tryd.prog 112 (fun i => some (i * 1, 1)) [.int .u8 0, .int .u8 0, .int .u8 0, .int .u8 0, .int .u8 0, .int .u8 0, .int .u8 0, .int .u8 0, .int .u8 0, .int .u8 0, .int .u8 0, .int .u8 0, .int .u8 0, .int .u8 0, .int .u8 0, .int .u8 0, .int .u8 0, .int .u8 0, .int .u8 0, .int .u8 0, .int .u8 0, .int .u8 0, .int .u8 0, .int .u8 0, .int .u8 0, .int .u8 0, .int .u8 0, .int .u8 0, .int .u8 0, .int .u8 0, .int .u8 0, .int .u8 0] := ⟨fun _ => by kernel_rfl⟩
theorem sh_64_uint8 : Shape Tryd.prog 113 (fun i => some (i * 1, 1)) [.int .u8 0, .int .u8 0, .int .u8 0, .int .u8 0, .int .u8 0, .int .u8 0, .int .u8 0, .int .u8 0, .int .u8 0, .int .u8 0, .int .u8 0, .int .u8 0, .int .u8 0, .int .u8 0, .int .u8 0, .int .u8 0, .int .u8 0, .int .u8 0, .int .u8 0, .int .u8 0, .int .u8 0, .int .u8 0, .int .u8 0, .int .u8 0, .int .u8 0, .int .u8 0, .int .u8 0, .int .u8 0, .int .u8 0, .int .u8 0, .int .u8 0, .int .u8 0, .int .u8 0, .int .u8 0, .int .u8 0, .int .u8 0, .int .u8 0, .int .u8 0, .int .u8 0, .int .u8 0, .int .u8 0, .int .u8 0, .int .u8 0, .int .u8 0, .int .u8 0, .int .u8 0, .int .u8 0, .int .u8 0, .int .u8 0, .int .u8 0, .int .u8 0, .int .u8 0, .int .u8 0, .int .u8 0, .int .u8 0, .int .u8 0, .int .u8 0, .int .u8 0, .int .u8 0, .int .u8 0, .int .u8 0, .int .u8 0, .int .u8 0, .int .u8 0] := ⟨fun _ => by kernel_rfl⟩
theorem sh_api_Token : Shape Tryd.prog 31 (fun i => #[(0, 1), (1, 1), (2, 1)][i]?) [.int .i64 0, .string ⟨#[]⟩, .int .i64 0] := ⟨fun _ => by kernel_rfl⟩
theorem sh_api_Value : Shape Tryd.prog 36 (fun i => #[(0, 1), (1, 1), (2, 1)][i]?) [.int .i64 0, .int .i64 0, .string ⟨#[]⟩] := ⟨fun _ => by kernel_rfl⟩
theorem sh_lex_scanner : Shape Tryd.prog 39 (fun i => #[(0, 1), (1, 1)][i]?) [.string ⟨#[]⟩, .int .i64 0] := ⟨fun _ => by kernel_rfl⟩
theorem sh_utf8_acceptRange : Shape Tryd.prog 107 (fun i => #[(0, 1), (1, 1)][i]?) [.int .u8 0, .int .u8 0] := ⟨fun _ => by kernel_rfl⟩
theorem sl_sl_api_Token : SlShape Tryd.prog 23 31 3 [.int .i64 0, .string ⟨#[]⟩, .int .i64 0] := ⟨by kernel_rfl, by kernel_rfl, by omega⟩
theorem sl_sl_string : SlShape Tryd.prog 58 9 1 [.string ⟨#[]⟩] := ⟨by kernel_rfl, by kernel_rfl, by omega⟩
theorem sl_sl_uint8 : SlShape Tryd.prog 29 5 1 [.int .u8 0] := ⟨by kernel_rfl, by kernel_rfl, by omega⟩
theorem ss_16_utf8_acceptRange : (Tryd.prog.info? 108).map (·.size) = some 32 := by kernel_rfl
theorem ss_20_uint64 : (Tryd.prog.info? 92).map (·.size) = some 20 := by kernel_rfl
theorem ss_32_uint8 : (Tryd.prog.info? 112).map (·.size) = some 32 := by kernel_rfl
theorem ss_64_uint8 : (Tryd.prog.info? 113).map (·.size) = some 64 := by kernel_rfl
theorem ss_api_Token : (Tryd.prog.info? 31).map (·.size) = some 3 := by kernel_rfl
theorem ss_int : (Tryd.prog.info? 3).map (·.size) = some 1 := by kernel_rfl
theorem ss_p_strings_Builder : (Tryd.prog.info? 62).map (·.size) = some 1 := by kernel_rfl
theorem ss_sl_uint8 : (Tryd.prog.info? 29).map (·.size) = some 1 := by kernel_rfl
theorem ss_uint8 : (Tryd.prog.info? 5).map (·.size) = some 1 := by kernel_rfl
theorem ss_utf8_acceptRange : (Tryd.prog.info? 107).map (·.size) = some 2 := by kernel_rfl
theorem sz_api_Token : szOf Tryd.prog 31 = some (some 3) := by kernel_rfl
theorem sz_api_Value : szOf Tryd.prog 36 = some (some 3) := by kernel_rfl
theorem sz_int : szOf Tryd.prog 3 = some none := by kernel_rfl
theorem sz_int32 : szOf Tryd.prog 21 = some none := by kernel_rfl
theorem sz_int64 : szOf Tryd.prog 2 = some none := by kernel_rfl
theorem sz_p_strings_Builder : szOf Tryd.prog 62 = some none := by kernel_rfl
theorem sz_sl_uint8 : szOf Tryd.prog 29 = some none := by kernel_rfl
theorem sz_sl_unicode_CaseRange : szOf Tryd.prog 103 = some none := by kernel_rfl
theorem sz_string : szOf Tryd.prog 9 = some none := by kernel_rfl
theorem sz_uint32 : szOf Tryd.prog 93 = some none := by kernel_rfl
theorem sz_uint64 : szOf Tryd.prog 60 = some none := by kernel_rfl
theorem sz_uint8 : szOf Tryd.prog 5 = some none := by kernel_rfl
theorem sz_utf8_acceptRange : szOf Tryd.prog 107 = some (some 2) := by kernel_rfl
theorem un_bool : Tryd.prog.underlying 4 = some .bool := by kernel_rfl
theorem un_int : Tryd.prog.underlying 3 = some (.int .i64) := by kernel_rfl
theorem un_int32 : Tryd.prog.underlying 21 = some (.int .i32) := by kernel_rfl
theorem un_int64 : Tryd.prog.underlying 2 = some (.int .i64) := by kernel_rfl
theorem un_sl_api_Token : Tryd.prog.underlying 23 = some (.slice 31) := by kernel_rfl
theorem un_sl_string : Tryd.prog.underlying 58 = some (.slice 9) := by kernel_rfl
theorem un_sl_uint8 : Tryd.prog.underlying 29 = some (.slice 5) := by kernel_rfl
theorem un_sl_unicode_CaseRange : Tryd.prog.underlying 103 = some (.slice 117) := by kernel_rfl
theorem un_string : Tryd.prog.underlying 9 = some .string := by kernel_rfl
theorem un_uint : Tryd.prog.underlying 61 = some (.int .u64) := by kernel_rfl
theorem un_uint32 : Tryd.prog.underlying 93 = some (.int .u32) := by kernel_rfl
theorem un_uint64 : Tryd.prog.underlying 60 = some (.int .u64) := by kernel_rfl
theorem un_uint8 : Tryd.prog.underlying 5 = some (.int .u8) := by kernel_rfl
theorem zo_24_uint8 : zeroOf Tryd.prog 77 = some (.agg #[.int .u8 0, .int .u8 0, .int .u8 0, .int .u8 0, .int .u8 0, .int .u8 0, .int .u8 0, .int .u8 0, .int .u8 0, .int .u8 0, .int .u8 0, .int .u8 0, .int .u8 0, .int .u8 0, .int .u8 0, .int .u8 0, .int .u8 0, .int .u8 0, .int .u8 0, .int .u8 0, .int .u8 0, .int .u8 0, .int .u8 0, .int .u8 0]) := by kernel_rfl
theorem zo_api_Token : zeroOf Tryd.prog 31 = some (.agg #[.int .i64 0, .string ⟨#[]⟩, .int .i64 0]) := by kernel_rfl
theorem zo_strings_Builder : zeroOf Tryd.prog 64 = some (.agg #[.pointer none, .slice none 0 0]) := by kernel_rfl
theorem zo_utf8_acceptRange : zeroOf Tryd.prog 107 = some (.agg #[.int .u8 0, .int .u8 0]) := by kernel_rfl
theorem hmx : Tryd.prog.follows .mixedOrders = true := by kernel_rfl
end Go.Proofs.YtjjgckmdfblmgaaDoor
