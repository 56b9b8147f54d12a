/- The closed facts on the types of the program. No condition. -/
import Derived.Test.YtjlojkchgfeenaaProg
import Derived.Test.YtjlojkchgfeenaaXG2
namespace Go.Proofs.Ytjlojkchgfeenaa
open Go Go.Vc
abbrev f_gosem_cut_init : Nat := 2
abbrev f_law14_BindNames : Nat := 3
abbrev f_law14_BindTwice : Nat := 4
abbrev f_law14_BindMoves : Nat := 5
abbrev f_law12_ExprEvals : Nat := 6
abbrev f_law12_ExprNumbers : Nat := 7
abbrev f_law12_ExprLogic : Nat := 8
abbrev f_law12_ExprOrder : Nat := 9
abbrev f_law12_ExprStops : Nat := 10
abbrev f_law12_ExprNulls : Nat := 11
abbrev f_law12_ExprParts : Nat := 12
abbrev f_law18_PlanWide : Nat := 13
abbrev f_law18_PlanCovers : Nat := 14
abbrev f_law14_awake : Nat := 15
abbrev f_law14_scope : Nat := 16
abbrev f_bind_Bind : Nat := 17
abbrev f_bind_Find : Nat := 18
abbrev f_ref10_SameExpr : Nat := 19
abbrev f_expr_Eval : Nat := 20
abbrev f_law12_awake : Nat := 21
abbrev f_ref12_Eval : Nat := 22
abbrev f_expr_Holds : Nat := 23
abbrev f_ref12_Holds : Nat := 24
abbrev f_law12_node : Nat := 25
abbrev f_law12_num : Nat := 26
abbrev f_law12_same : Nat := 27
abbrev f_law18_awake : Nat := 28
abbrev f_law18_right : Nat := 29
abbrev f_plan_Covers : Nat := 30
abbrev f_law18_columns : Nat := 31
abbrev f_plan_Choose : Nat := 32
abbrev f_bind_aggregate : Nat := 33
abbrev f_bind_kids : Nat := 34
abbrev f_value_Ok : Nat := 35
abbrev f_bind_typed : Nat := 36
abbrev f_ref10_SameExprs : Nat := 37
abbrev f_p_expr_finder_find : Nat := 38
abbrev f_ref01_Ok : Nat := 39
abbrev f_ref12_one : Nat := 40
abbrev f_ref12_logic : Nat := 41
abbrev f_ref12_number : Nat := 42
abbrev f_ref01_Compare : Nat := 43
abbrev f_ref12_Truth : Nat := 44
abbrev f_value_Compare : Nat := 45
abbrev f_plan_question : Nat := 46
abbrev f_plan_Choose_1 : Nat := 47
abbrev f_slices_IndexFunc_sl_api_Index_api_Index : Nat := 48
abbrev f_plan_Choose_1_1 : Nat := 49
abbrev f_plan_Choose_2 : Nat := 50
abbrev f_plan_Choose_3 : Nat := 51
abbrev f_plan_greatest : Nat := 52
abbrev f_plan_Choose_4 : Nat := 53
abbrev f_bind_typed_1 : Nat := 54
abbrev f_slices_ContainsFunc_sl_int_int : Nat := 55
abbrev f_bind_typed_1_1 : Nat := 56
abbrev f_expr_kids : Nat := 57
abbrev f_p_expr_finder_fail : Nat := 58
abbrev f_p_expr_finder_leaf : Nat := 59
abbrev f_p_expr_finder_one : Nat := 60
abbrev f_p_expr_finder_two : Nat := 61
abbrev f_ref12_add : Nat := 62
abbrev f_ref12_mul : Nat := 63
abbrev f_ref12_signed : Nat := 64
abbrev f_ref12_size : Nat := 65
abbrev f_cmp_Or_int : Nat := 66
abbrev f_cmp_Compare_int : Nat := 67
abbrev f_cmp_Compare_int64 : Nat := 68
abbrev f_cmp_Compare_string : Nat := 69
abbrev f_plan_turned : Nat := 70
abbrev f_plan_literal : Nat := 71
abbrev f_strings_Repeat : Nat := 72
abbrev f_slices_IndexFunc_sl_int_int : Nat := 73
abbrev f_expr_truth : Nat := 74
abbrev f_p_expr_finder_logic : Nat := 75
abbrev f_p_expr_finder_number : Nat := 76
abbrev f_cmp_isNaN_int : Nat := 77
abbrev f_cmp_isNaN_int64 : Nat := 78
abbrev f_cmp_isNaN_string : Nat := 79
abbrev f_math_bits_Mul : Nat := 80
abbrev f_strings_HasPrefix : Nat := 81
abbrev f_p_strings_Builder_Grow : Nat := 82
abbrev f_p_strings_Builder_WriteString : Nat := 83
abbrev f_p_strings_Builder_Len : Nat := 84
abbrev f_p_strings_Builder_String : Nat := 85
abbrev f_p_expr_finder_logic_1 : Nat := 86
abbrev f_math_bits_Mul32 : Nat := 87
abbrev f_math_bits_Mul64 : Nat := 88
abbrev f_internal_stringslite_HasPrefix : Nat := 89
abbrev f_p_strings_Builder_copyCheck : Nat := 90
abbrev f_p_strings_Builder_grow : Nat := 91
abbrev ty_ty_0 : Nat := 0
abbrev ty_int64 : Nat := 2
abbrev ty_int : Nat := 3
abbrev ty_bool : Nat := 4
abbrev ty_uint8 : Nat := 5
abbrev ty_abi_BoundsErrorCode : Nat := 6
abbrev ty_runtime_boundsError : Nat := 8
abbrev ty_string : Nat := 9
abbrev ty_runtime_errorString : Nat := 10
abbrev ty_runtime_plainError : Nat := 11
abbrev ty_uintptr : Nat := 12
abbrev ty_runtime_errorAddressString : Nat := 14
abbrev ty_p_runtime_TypeAssertionError : Nat := 15
abbrev ty_p_runtime_PanicNilError : Nat := 16
abbrev ty_p_abi_Type : Nat := 17
abbrev ty_maps_unhashableTypeError : Nat := 19
abbrev ty_interface : Nat := 20
abbrev ty_int32 : Nat := 21
abbrev ty_api_Value : Nat := 23
abbrev ty_sl_api_Expr : Nat := 24
abbrev ty_api_Expr : Nat := 26
abbrev ty_sl_cadastreref14_Col : Nat := 27
abbrev ty_cadastreref14_Col : Nat := 29
abbrev ty_sl_bind_Col : Nat := 31
abbrev ty_bind_Col : Nat := 33
abbrev ty_api_Errno : Nat := 34
abbrev ty_api_Expr_int_api_Errno : Nat := 35
abbrev ty_int_api_Errno : Nat := 37
abbrev ty_sl_api_Value : Nat := 42
abbrev ty_api_Value_api_Errno : Nat := 43
abbrev ty_bool_api_Errno : Nat := 46
abbrev ty_cadastrelaw12_Null : Nat := 56
abbrev ty_api_Read : Nat := 60
abbrev ty_cadastrelaw18_Wide : Nat := 62
abbrev ty_sl_api_Column : Nat := 66
abbrev ty_api_Table : Nat := 68
abbrev ty_sl_api_Index : Nat := 69
abbrev ty_cadastrelaw18_Ask : Nat := 71
abbrev ty_sl_bind_Col_bool : Nat := 72
abbrev ty_api_Read_int : Nat := 74
abbrev ty_api_Index : Nat := 77
abbrev ty_sl_int : Nat := 82
abbrev ty_int_bool : Nat := 83
abbrev ty_p_expr_finder : Nat := 86
abbrev ty_expr_finder : Nat := 88
abbrev ty_api_Column : Nat := 95
abbrev ty_int_int_api_Value : Nat := 96
abbrev ty_uint : Nat := 103
abbrev ty_sl_func_api_Expr_api_Value : Nat := 106
abbrev ty_int64_bool : Nat := 107
abbrev ty_uint64 : Nat := 110
abbrev ty_api_Value_bool : Nat := 116
abbrev ty_sl_bool : Nat := 122
abbrev ty_map_int_int : Nat := 125
abbrev ty_uint_uint : Nat := 126
abbrev ty_p_strings_Builder : Nat := 129
abbrev ty_sl_uint8 : Nat := 130
abbrev ty_strings_Builder : Nat := 132
abbrev ty_interface_Error_string : Nat := 134
abbrev ty_error : Nat := 135
abbrev ty_int_error : Nat := 136
abbrev ty_uint32 : Nat := 140
abbrev ty_uint32_uint32 : Nat := 141
abbrev ty_uint64_uint64 : Nat := 143
abbrev ty_p_uint8 : Nat := 145
abbrev ty_unsafe_Pointer : Nat := 146
abbrev ty_runtime_TypeAssertionError : Nat := 150
abbrev ty_runtime_PanicNilError : Nat := 153
abbrev ty_abi_TFlag : Nat := 154
abbrev ty_abi_Kind : Nat := 155
abbrev ty_abi_NameOff : Nat := 157
abbrev ty_abi_TypeOff : Nat := 158
abbrev ty_abi_Type : Nat := 160
theorem ap_sl_api_Expr : ApTy Try.prog 24 26 8 104 := ⟨by kernel_rfl, by kernel_rfl⟩
theorem ap_sl_api_Value : ApTy Try.prog 42 23 3 32 := ⟨by kernel_rfl, by kernel_rfl⟩
theorem ap_sl_bind_Col : ApTy Try.prog 31 33 3 40 := ⟨by kernel_rfl, by kernel_rfl⟩
theorem ap_sl_int : ApTy Try.prog 82 3 1 8 := ⟨by kernel_rfl, by kernel_rfl⟩
theorem ap_sl_uint8 : ApTy Try.prog 130 5 1 1 := ⟨by kernel_rfl, by kernel_rfl⟩
theorem el_sl_api_Column : elSize Try.prog 66 = some 4 := by kernel_rfl
theorem el_sl_api_Expr : elSize Try.prog 24 = some 8 := by kernel_rfl
theorem el_sl_api_Index : elSize Try.prog 69 = some 4 := by kernel_rfl
theorem el_sl_api_Value : elSize Try.prog 42 = some 3 := by kernel_rfl
theorem el_sl_bind_Col : elSize Try.prog 31 = some 3 := by kernel_rfl
theorem el_sl_bool : elSize Try.prog 122 = some 1 := by kernel_rfl
theorem el_sl_cadastreref14_Col : elSize Try.prog 27 = some 3 := by kernel_rfl
theorem el_sl_func_api_Expr_api_Value : elSize Try.prog 106 = some 1 := by kernel_rfl
theorem el_sl_int : elSize Try.prog 82 = some 1 := by kernel_rfl
theorem fo_api_Column_0 : fldOff Try.prog 95 0 = some 0 := by kernel_rfl
theorem fo_api_Column_1 : fldOff Try.prog 95 1 = some 1 := by kernel_rfl
theorem fo_api_Expr_0 : fldOff Try.prog 26 0 = some 0 := by kernel_rfl
theorem fo_api_Expr_1 : fldOff Try.prog 26 1 = some 1 := by kernel_rfl
theorem fo_api_Expr_2 : fldOff Try.prog 26 2 = some 4 := by kernel_rfl
theorem fo_api_Expr_3 : fldOff Try.prog 26 3 = some 5 := by kernel_rfl
theorem fo_api_Expr_4 : fldOff Try.prog 26 4 = some 6 := by kernel_rfl
theorem fo_api_Expr_5 : fldOff Try.prog 26 5 = some 7 := by kernel_rfl
theorem fo_api_Index_2 : fldOff Try.prog 77 2 = some 2 := by kernel_rfl
theorem fo_api_Index_3 : fldOff Try.prog 77 3 = some 3 := by kernel_rfl
theorem fo_api_Read_0 : fldOff Try.prog 60 0 = some 0 := by kernel_rfl
theorem fo_api_Read_1 : fldOff Try.prog 60 1 = some 1 := by kernel_rfl
theorem fo_api_Read_2 : fldOff Try.prog 60 2 = some 2 := by kernel_rfl
theorem fo_api_Read_3 : fldOff Try.prog 60 3 = some 5 := by kernel_rfl
theorem fo_api_Table_0 : fldOff Try.prog 68 0 = some 0 := by kernel_rfl
theorem fo_api_Table_1 : fldOff Try.prog 68 1 = some 1 := by kernel_rfl
theorem fo_api_Value_0 : fldOff Try.prog 23 0 = some 0 := by kernel_rfl
theorem fo_api_Value_1 : fldOff Try.prog 23 1 = some 1 := by kernel_rfl
theorem fo_api_Value_2 : fldOff Try.prog 23 2 = some 2 := by kernel_rfl
theorem fo_bind_Col_0 : fldOff Try.prog 33 0 = some 0 := by kernel_rfl
theorem fo_bind_Col_1 : fldOff Try.prog 33 1 = some 1 := by kernel_rfl
theorem fo_bind_Col_2 : fldOff Try.prog 33 2 = some 2 := by kernel_rfl
theorem fo_cadastrelaw12_Null_0 : fldOff Try.prog 56 0 = some 0 := by kernel_rfl
theorem fo_cadastrelaw12_Null_1 : fldOff Try.prog 56 1 = some 1 := by kernel_rfl
theorem fo_cadastrelaw12_Null_2 : fldOff Try.prog 56 2 = some 9 := by kernel_rfl
theorem fo_cadastrelaw12_Null_3 : fldOff Try.prog 56 3 = some 10 := by kernel_rfl
theorem fo_cadastrelaw18_Ask_1 : fldOff Try.prog 71 1 = some 1 := by kernel_rfl
theorem fo_cadastrelaw18_Ask_2 : fldOff Try.prog 71 2 = some 3 := by kernel_rfl
theorem fo_cadastrelaw18_Wide_0 : fldOff Try.prog 62 0 = some 0 := by kernel_rfl
theorem fo_cadastrelaw18_Wide_1 : fldOff Try.prog 62 1 = some 8 := by kernel_rfl
theorem fo_cadastrelaw18_Wide_2 : fldOff Try.prog 62 2 = some 11 := by kernel_rfl
theorem fo_cadastrelaw18_Wide_3 : fldOff Try.prog 62 3 = some 14 := by kernel_rfl
theorem fo_cadastreref14_Col_0 : fldOff Try.prog 29 0 = some 0 := by kernel_rfl
theorem fo_cadastreref14_Col_1 : fldOff Try.prog 29 1 = some 1 := by kernel_rfl
theorem fo_cadastreref14_Col_2 : fldOff Try.prog 29 2 = some 2 := by kernel_rfl
theorem fo_expr_finder_0 : fldOff Try.prog 88 0 = some 0 := by kernel_rfl
theorem fo_expr_finder_1 : fldOff Try.prog 88 1 = some 1 := by kernel_rfl
theorem fo_strings_Builder_0 : fldOff Try.prog 132 0 = some 0 := by kernel_rfl
theorem fo_strings_Builder_1 : fldOff Try.prog 132 1 = some 1 := by kernel_rfl
theorem sh_3_int : Shape Try.prog 53 (fun i => some (i * 1, 1)) [.int .i64 0, .int .i64 0, .int .i64 0] := ⟨fun _ => by kernel_rfl⟩
theorem sh_6_bool : Shape Try.prog 92 (fun i => some (i * 1, 1)) [.bool false, .bool false, .bool false, .bool false, .bool false, .bool false] := ⟨fun _ => by kernel_rfl⟩
theorem sh_api_Column : Shape Try.prog 95 (fun i => #[(0, 1), (1, 1), (2, 1), (3, 1)][i]?) [.string ⟨#[]⟩, .int .i64 0, .bool false, .bool false] := ⟨fun _ => by kernel_rfl⟩
theorem sh_api_Expr : Shape Try.prog 26 (fun i => #[(0, 1), (1, 3), (4, 1), (5, 1), (6, 1), (7, 1)][i]?) [.int .i64 0, .int .i64 0, .int .i64 0, .string ⟨#[]⟩, .string ⟨#[]⟩, .string ⟨#[]⟩, .int .i64 0, .slice none 0 0] := ⟨fun _ => by kernel_rfl⟩
theorem sh_api_Index : Shape Try.prog 77 (fun i => #[(0, 1), (1, 1), (2, 1), (3, 1)][i]?) [.string ⟨#[]⟩, .string ⟨#[]⟩, .int .i64 0, .bool false] := ⟨fun _ => by kernel_rfl⟩
theorem sh_api_Read : Shape Try.prog 60 (fun i => #[(0, 1), (1, 1), (2, 3), (5, 3)][i]?) [.string ⟨#[]⟩, .int .i64 0, .int .i64 0, .int .i64 0, .string ⟨#[]⟩, .int .i64 0, .int .i64 0, .string ⟨#[]⟩] := ⟨fun _ => by kernel_rfl⟩
theorem sh_api_Table : Shape Try.prog 68 (fun i => #[(0, 1), (1, 1)][i]?) [.string ⟨#[]⟩, .slice none 0 0] := ⟨fun _ => by kernel_rfl⟩
theorem sh_api_Value : Shape Try.prog 23 (fun i => #[(0, 1), (1, 1), (2, 1)][i]?) [.int .i64 0, .int .i64 0, .string ⟨#[]⟩] := ⟨fun _ => by kernel_rfl⟩
theorem sh_bind_Col : Shape Try.prog 33 (fun i => #[(0, 1), (1, 1), (2, 1)][i]?) [.string ⟨#[]⟩, .string ⟨#[]⟩, .int .i64 0] := ⟨fun _ => by kernel_rfl⟩
theorem sh_expr_finder : Shape Try.prog 88 (fun i => #[(0, 1), (1, 1)][i]?) [.slice none 0 0, .int .i64 0] := ⟨fun _ => by kernel_rfl⟩
theorem sl_sl_api_Column : SlShape Try.prog 66 95 4 [.string ⟨#[]⟩, .int .i64 0, .bool false, .bool false] := ⟨by kernel_rfl, by kernel_rfl, by omega⟩
theorem sl_sl_api_Expr : SlShape Try.prog 24 26 8 [.int .i64 0, .int .i64 0, .int .i64 0, .string ⟨#[]⟩, .string ⟨#[]⟩, .string ⟨#[]⟩, .int .i64 0, .slice none 0 0] := ⟨by kernel_rfl, by kernel_rfl, by omega⟩
theorem sl_sl_api_Index : SlShape Try.prog 69 77 4 [.string ⟨#[]⟩, .string ⟨#[]⟩, .int .i64 0, .bool false] := ⟨by kernel_rfl, by kernel_rfl, by omega⟩
theorem sl_sl_api_Value : SlShape Try.prog 42 23 3 [.int .i64 0, .int .i64 0, .string ⟨#[]⟩] := ⟨by kernel_rfl, by kernel_rfl, by omega⟩
theorem sl_sl_bind_Col : SlShape Try.prog 31 33 3 [.string ⟨#[]⟩, .string ⟨#[]⟩, .int .i64 0] := ⟨by kernel_rfl, by kernel_rfl, by omega⟩
theorem sl_sl_bool : SlShape Try.prog 122 4 1 [.bool false] := ⟨by kernel_rfl, by kernel_rfl, by omega⟩
theorem sl_sl_func_api_Expr_api_Value : SlShape Try.prog 106 89 1 [.nilFunc] := ⟨by kernel_rfl, by kernel_rfl, by omega⟩
theorem sl_sl_int : SlShape Try.prog 82 3 1 [.int .i64 0] := ⟨by kernel_rfl, by kernel_rfl, by omega⟩
theorem ss_6_bool : (Try.prog.info? 92).map (·.size) = some 6 := by kernel_rfl
theorem ss_api_Errno : (Try.prog.info? 34).map (·.size) = some 1 := by kernel_rfl
theorem ss_api_Expr : (Try.prog.info? 26).map (·.size) = some 8 := by kernel_rfl
theorem ss_api_Read : (Try.prog.info? 60).map (·.size) = some 8 := by kernel_rfl
theorem ss_api_Table : (Try.prog.info? 68).map (·.size) = some 2 := by kernel_rfl
theorem ss_api_Value : (Try.prog.info? 23).map (·.size) = some 3 := by kernel_rfl
theorem ss_bind_Col : (Try.prog.info? 33).map (·.size) = some 3 := by kernel_rfl
theorem ss_int : (Try.prog.info? 3).map (·.size) = some 1 := by kernel_rfl
theorem ss_int64 : (Try.prog.info? 2).map (·.size) = some 1 := by kernel_rfl
theorem ss_p_strings_Builder : (Try.prog.info? 129).map (·.size) = some 1 := by kernel_rfl
theorem ss_sl_api_Expr : (Try.prog.info? 24).map (·.size) = some 1 := by kernel_rfl
theorem ss_sl_uint8 : (Try.prog.info? 130).map (·.size) = some 1 := by kernel_rfl
theorem sz_api_Errno : szOf Try.prog 34 = some none := by kernel_rfl
theorem sz_api_Expr : szOf Try.prog 26 = some (some 8) := by kernel_rfl
theorem sz_api_Index : szOf Try.prog 77 = some (some 4) := by kernel_rfl
theorem sz_api_Read : szOf Try.prog 60 = some (some 8) := by kernel_rfl
theorem sz_api_Table : szOf Try.prog 68 = some (some 2) := by kernel_rfl
theorem sz_api_Value : szOf Try.prog 23 = some (some 3) := by kernel_rfl
theorem sz_bind_Col : szOf Try.prog 33 = some (some 3) := by kernel_rfl
theorem sz_bool : szOf Try.prog 4 = some none := by kernel_rfl
theorem sz_func_api_Expr_api_Value : szOf Try.prog 89 = some none := by kernel_rfl
theorem sz_func_bool_bool : szOf Try.prog 98 = some none := by kernel_rfl
theorem sz_int : szOf Try.prog 3 = some none := by kernel_rfl
theorem sz_int64 : szOf Try.prog 2 = some none := by kernel_rfl
theorem sz_p_strings_Builder : szOf Try.prog 129 = some none := by kernel_rfl
theorem sz_sl_api_Column : szOf Try.prog 66 = some none := by kernel_rfl
theorem sz_sl_api_Expr : szOf Try.prog 24 = some none := by kernel_rfl
theorem sz_sl_api_Index : szOf Try.prog 69 = some none := by kernel_rfl
theorem sz_sl_api_Value : szOf Try.prog 42 = some none := by kernel_rfl
theorem sz_sl_int : szOf Try.prog 82 = some none := by kernel_rfl
theorem sz_sl_uint8 : szOf Try.prog 130 = some none := by kernel_rfl
theorem sz_string : szOf Try.prog 9 = some none := by kernel_rfl
theorem sz_uint8 : szOf Try.prog 5 = some none := by kernel_rfl
theorem un_bool : Try.prog.underlying 4 = some .bool := by kernel_rfl
theorem un_int : Try.prog.underlying 3 = some (.int .i64) := by kernel_rfl
theorem un_int64 : Try.prog.underlying 2 = some (.int .i64) := by kernel_rfl
theorem un_map_int_int : Try.prog.underlying 125 = some (.map 3 3) := by kernel_rfl
theorem un_sl_api_Column : Try.prog.underlying 66 = some (.slice 95) := by kernel_rfl
theorem un_sl_api_Expr : Try.prog.underlying 24 = some (.slice 26) := by kernel_rfl
theorem un_sl_api_Index : Try.prog.underlying 69 = some (.slice 77) := by kernel_rfl
theorem un_sl_api_Value : Try.prog.underlying 42 = some (.slice 23) := by kernel_rfl
theorem un_sl_bind_Col : Try.prog.underlying 31 = some (.slice 33) := by kernel_rfl
theorem un_sl_cadastreref14_Col : Try.prog.underlying 27 = some (.slice 29) := by kernel_rfl
theorem un_sl_int : Try.prog.underlying 82 = some (.slice 3) := by kernel_rfl
theorem un_sl_uint8 : Try.prog.underlying 130 = some (.slice 5) := by kernel_rfl
theorem un_string : Try.prog.underlying 9 = some .string := by kernel_rfl
theorem un_uint : Try.prog.underlying 103 = some (.int .u64) := by kernel_rfl
theorem un_uint32 : Try.prog.underlying 140 = some (.int .u32) := by kernel_rfl
theorem un_uint64 : Try.prog.underlying 110 = some (.int .u64) := by kernel_rfl
theorem un_uint8 : Try.prog.underlying 5 = some (.int .u8) := by kernel_rfl
theorem zc_api_Expr : zcells Try.prog 26 = some 8 := by kernel_rfl
theorem zc_api_Read : zcells Try.prog 60 = some 8 := by kernel_rfl
theorem zc_api_Value : zcells Try.prog 23 = some 3 := by kernel_rfl
theorem zc_int : zcells Try.prog 3 = some 1 := by kernel_rfl
theorem zo_6_bool : zeroOf Try.prog 92 = some (.agg #[.bool false, .bool false, .bool false, .bool false, .bool false, .bool false]) := by kernel_rfl
theorem zo_api_Expr : zeroOf Try.prog 26 = some (.agg #[.int .i64 0, .int .i64 0, .int .i64 0, .string ⟨#[]⟩, .string ⟨#[]⟩, .string ⟨#[]⟩, .int .i64 0, .slice none 0 0]) := by kernel_rfl
theorem zo_api_Read : zeroOf Try.prog 60 = some (.agg #[.string ⟨#[]⟩, .int .i64 0, .int .i64 0, .int .i64 0, .string ⟨#[]⟩, .int .i64 0, .int .i64 0, .string ⟨#[]⟩]) := by kernel_rfl
theorem zo_api_Table : zeroOf Try.prog 68 = some (.agg #[.string ⟨#[]⟩, .slice none 0 0]) := by kernel_rfl
theorem zo_api_Value : zeroOf Try.prog 23 = some (.agg #[.int .i64 0, .int .i64 0, .string ⟨#[]⟩]) := by kernel_rfl
theorem zo_bind_Col : zeroOf Try.prog 33 = some (.agg #[.string ⟨#[]⟩, .string ⟨#[]⟩, .int .i64 0]) := by kernel_rfl
theorem zo_int : zeroOf Try.prog 3 = some (.int .i64 0) := by kernel_rfl
theorem hmx : Try.prog.follows .mixedOrders = true := by kernel_rfl
end Go.Proofs.Ytjlojkchgfeenaa
