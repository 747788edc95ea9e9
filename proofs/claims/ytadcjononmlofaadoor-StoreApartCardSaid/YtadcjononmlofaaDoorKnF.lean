/- The numbers of this translation under names. Written by a program of this claim. -/
import Derived.Test.YtadcjononmlofaaDoorKnT
set_option autoImplicit false
namespace Go.Kn
open Go Go.Proofs

noncomputable abbrev Pg : Program := Tryd.prog
abbrev Fn.gosem_cut : FuncId := 1
theorem Fd.gosem_cut : Pg.funcs[(1 : Nat)]? = some Tryd.f1 := Tryd.func1
noncomputable abbrev Fb.gosem_cut : Func := Tryd.f1
abbrev Fn.gosem_cut_init : FuncId := 2
theorem Fd.gosem_cut_init : Pg.funcs[(2 : Nat)]? = some Tryd.f2 := Tryd.func2
noncomputable abbrev Fb.gosem_cut_init : Func := Tryd.f2
abbrev Fn.law11_StorePlays : FuncId := 3
theorem Fd.law11_StorePlays : Pg.funcs[(3 : Nat)]? = some Tryd.f3 := Tryd.func3
noncomputable abbrev Fb.law11_StorePlays : Func := Tryd.f3
abbrev Fn.law11_StoreApart : FuncId := 4
theorem Fd.law11_StoreApart : Pg.funcs[(4 : Nat)]? = some Tryd.f4 := Tryd.func4
noncomputable abbrev Fb.law11_StoreApart : Func := Tryd.f4
abbrev Fn.store_New : FuncId := 5
theorem Fd.store_New : Pg.funcs[(5 : Nat)]? = some Tryd.f5 := Tryd.func5
noncomputable abbrev Fb.store_New : Func := Tryd.f5
abbrev Fn.law11_knows : FuncId := 6
theorem Fd.law11_knows : Pg.funcs[(6 : Nat)]? = some Tryd.f6 := Tryd.func6
noncomputable abbrev Fb.law11_knows : Func := Tryd.f6
abbrev Fn.store_Store_Put : FuncId := 7
theorem Fd.store_Store_Put : Pg.funcs[(7 : Nat)]? = some Tryd.f7 := Tryd.func7
noncomputable abbrev Fb.store_Store_Put : Func := Tryd.f7
abbrev Fn.ref11_Store_With : FuncId := 8
theorem Fd.ref11_Store_With : Pg.funcs[(8 : Nat)]? = some Tryd.f8 := Tryd.func8
noncomputable abbrev Fb.ref11_Store_With : Func := Tryd.f8
abbrev Fn.law11_As : FuncId := 9
theorem Fd.law11_As : Pg.funcs[(9 : Nat)]? = some Tryd.f9 := Tryd.func9
noncomputable abbrev Fb.law11_As : Func := Tryd.f9
abbrev Fn.store_Store_Object : FuncId := 10
theorem Fd.store_Store_Object : Pg.funcs[(10 : Nat)]? = some Tryd.f10 := Tryd.func10
noncomputable abbrev Fb.store_Store_Object : Func := Tryd.f10
abbrev Fn.ref04_Same : FuncId := 11
theorem Fd.ref04_Same : Pg.funcs[(11 : Nat)]? = some Tryd.f11 := Tryd.func11
noncomputable abbrev Fb.ref04_Same : Func := Tryd.f11
abbrev Fn.ref11_Store_Object : FuncId := 12
theorem Fd.ref11_Store_Object : Pg.funcs[(12 : Nat)]? = some Tryd.f12 := Tryd.func12
noncomputable abbrev Fb.ref11_Store_Object : Func := Tryd.f12
abbrev Fn.store_Store_Kind : FuncId := 13
theorem Fd.store_Store_Kind : Pg.funcs[(13 : Nat)]? = some Tryd.f13 := Tryd.func13
noncomputable abbrev Fb.store_Store_Kind : Func := Tryd.f13
abbrev Fn.ref11_Store_Kind : FuncId := 14
theorem Fd.ref11_Store_Kind : Pg.funcs[(14 : Nat)]? = some Tryd.f14 := Tryd.func14
noncomputable abbrev Fb.ref11_Store_Kind : Func := Tryd.f14
abbrev Fn.store_Store_Get : FuncId := 15
theorem Fd.store_Store_Get : Pg.funcs[(15 : Nat)]? = some Tryd.f15 := Tryd.func15
noncomputable abbrev Fb.store_Store_Get : Func := Tryd.f15
abbrev Fn.ref11_Store_Has : FuncId := 16
theorem Fd.ref11_Store_Has : Pg.funcs[(16 : Nat)]? = some Tryd.f16 := Tryd.func16
noncomputable abbrev Fb.ref11_Store_Has : Func := Tryd.f16
abbrev Fn.ref11_Few : FuncId := 17
theorem Fd.ref11_Few : Pg.funcs[(17 : Nat)]? = some Tryd.f17 := Tryd.func17
noncomputable abbrev Fb.ref11_Few : Func := Tryd.f17
abbrev Fn.ref11_Grow : FuncId := 18
theorem Fd.ref11_Grow : Pg.funcs[(18 : Nat)]? = some Tryd.f18 := Tryd.func18
noncomputable abbrev Fb.ref11_Grow : Func := Tryd.f18
abbrev Fn.law11_Of : FuncId := 19
theorem Fd.law11_Of : Pg.funcs[(19 : Nat)]? = some Tryd.f19 := Tryd.func19
noncomputable abbrev Fb.law11_Of : Func := Tryd.f19
abbrev Fn.store_Store_Copy : FuncId := 20
theorem Fd.store_Store_Copy : Pg.funcs[(20 : Nat)]? = some Tryd.f20 := Tryd.func20
noncomputable abbrev Fb.store_Store_Copy : Func := Tryd.f20
abbrev Fn.store_Store_Len : FuncId := 21
theorem Fd.store_Store_Len : Pg.funcs[(21 : Nat)]? = some Tryd.f21 := Tryd.func21
noncomputable abbrev Fb.store_Store_Len : Func := Tryd.f21
abbrev Fn.store_Store_Ids : FuncId := 22
theorem Fd.store_Store_Ids : Pg.funcs[(22 : Nat)]? = some Tryd.f22 := Tryd.func22
noncomputable abbrev Fb.store_Store_Ids : Func := Tryd.f22
abbrev Fn.ref02_Sum : FuncId := 23
theorem Fd.ref02_Sum : Pg.funcs[(23 : Nat)]? = some Tryd.f23 := Tryd.func23
noncomputable abbrev Fb.ref02_Sum : Func := Tryd.f23
abbrev Fn.object_Decode : FuncId := 24
theorem Fd.object_Decode : Pg.funcs[(24 : Nat)]? = some Tryd.f24 := Tryd.func24
noncomputable abbrev Fb.object_Decode : Func := Tryd.f24
abbrev Fn.object_Id : FuncId := 25
theorem Fd.object_Id : Pg.funcs[(25 : Nat)]? = some Tryd.f25 := Tryd.func25
noncomputable abbrev Fb.object_Id : Func := Tryd.f25
abbrev Fn.store_Store_place : FuncId := 26
theorem Fd.store_Store_place : Pg.funcs[(26 : Nat)]? = some Tryd.f26 := Tryd.func26
noncomputable abbrev Fb.store_Store_place : Func := Tryd.f26
abbrev Fn.slices_Insert_store_item : FuncId := 27
theorem Fd.slices_Insert_store_item : Pg.funcs[(27 : Nat)]? = some Tryd.f27 := Tryd.func27
noncomputable abbrev Fb.slices_Insert_store_item : Func := Tryd.f27
abbrev Fn.ref04_Decode : FuncId := 28
theorem Fd.ref04_Decode : Pg.funcs[(28 : Nat)]? = some Tryd.f28 := Tryd.func28
noncomputable abbrev Fb.ref04_Decode : Func := Tryd.f28
abbrev Fn.ref11_Store_At : FuncId := 29
theorem Fd.ref11_Store_At : Pg.funcs[(29 : Nat)]? = some Tryd.f29 := Tryd.func29
noncomputable abbrev Fb.ref11_Store_At : Func := Tryd.f29
abbrev Fn.ref02_Less : FuncId := 30
theorem Fd.ref02_Less : Pg.funcs[(30 : Nat)]? = some Tryd.f30 := Tryd.func30
noncomputable abbrev Fb.ref02_Less : Func := Tryd.f30
abbrev Fn.ref02_Same : FuncId := 31
theorem Fd.ref02_Same : Pg.funcs[(31 : Nat)]? = some Tryd.f31 := Tryd.func31
noncomputable abbrev Fb.ref02_Same : Func := Tryd.f31
abbrev Fn.ref11_Store_Ids : FuncId := 32
theorem Fd.ref11_Store_Ids : Pg.funcs[(32 : Nat)]? = some Tryd.f32 := Tryd.func32
noncomputable abbrev Fb.ref11_Store_Ids : Func := Tryd.f32
abbrev Fn.ref04_Encode : FuncId := 33
theorem Fd.ref04_Encode : Pg.funcs[(33 : Nat)]? = some Tryd.f33 := Tryd.func33
noncomputable abbrev Fb.ref04_Encode : Func := Tryd.f33
abbrev Fn.ref11_make1 : FuncId := 34
theorem Fd.ref11_make1 : Pg.funcs[(34 : Nat)]? = some Tryd.f34 := Tryd.func34
noncomputable abbrev Fb.ref11_make1 : Func := Tryd.f34
abbrev Fn.slices_Clone_store_item : FuncId := 35
theorem Fd.slices_Clone_store_item : Pg.funcs[(35 : Nat)]? = some Tryd.f35 := Tryd.func35
noncomputable abbrev Fb.slices_Clone_store_item : Func := Tryd.f35
abbrev Fn.ref02_k : FuncId := 36
theorem Fd.ref02_k : Pg.funcs[(36 : Nat)]? = some Tryd.f36 := Tryd.func36
noncomputable abbrev Fb.ref02_k : Func := Tryd.f36
abbrev Fn.ref02_block : FuncId := 37
theorem Fd.ref02_block : Pg.funcs[(37 : Nat)]? = some Tryd.f37 := Tryd.func37
noncomputable abbrev Fb.ref02_block : Func := Tryd.f37
abbrev Fn.varint_Take : FuncId := 38
theorem Fd.varint_Take : Pg.funcs[(38 : Nat)]? = some Tryd.f38 := Tryd.func38
noncomputable abbrev Fb.varint_Take : Func := Tryd.f38
abbrev Fn.object_reader_blob : FuncId := 39
theorem Fd.object_reader_blob : Pg.funcs[(39 : Nat)]? = some Tryd.f39 := Tryd.func39
noncomputable abbrev Fb.object_reader_blob : Func := Tryd.f39
abbrev Fn.object_reader_tree : FuncId := 40
theorem Fd.object_reader_tree : Pg.funcs[(40 : Nat)]? = some Tryd.f40 := Tryd.func40
noncomputable abbrev Fb.object_reader_tree : Func := Tryd.f40
abbrev Fn.object_reader_commit : FuncId := 41
theorem Fd.object_reader_commit : Pg.funcs[(41 : Nat)]? = some Tryd.f41 := Tryd.func41
noncomputable abbrev Fb.object_reader_commit : Func := Tryd.f41
abbrev Fn.object_reader_tag : FuncId := 42
theorem Fd.object_reader_tag : Pg.funcs[(42 : Nat)]? = some Tryd.f42 := Tryd.func42
noncomputable abbrev Fb.object_reader_tag : Func := Tryd.f42
abbrev Fn.object_may : FuncId := 43
theorem Fd.object_may : Pg.funcs[(43 : Nat)]? = some Tryd.f43 := Tryd.func43
noncomputable abbrev Fb.object_may : Func := Tryd.f43
abbrev Fn.sha256_Sum : FuncId := 44
theorem Fd.sha256_Sum : Pg.funcs[(44 : Nat)]? = some Tryd.f44 := Tryd.func44
noncomputable abbrev Fb.sha256_Sum : Func := Tryd.f44
abbrev Fn.slices_BinarySearchFunc_store_item_api_Id : FuncId := 45
theorem Fd.slices_BinarySearchFunc_store_item_api_Id : Pg.funcs[(45 : Nat)]? = some Tryd.f45 := Tryd.func45
noncomputable abbrev Fb.slices_BinarySearchFunc_store_item_api_Id : Func := Tryd.f45
abbrev Fn.store_Store_place_c1 : FuncId := 46
theorem Fd.store_Store_place_c1 : Pg.funcs[(46 : Nat)]? = some Tryd.f46 := Tryd.func46
noncomputable abbrev Fb.store_Store_place_c1 : Func := Tryd.f46
abbrev Fn.slices_Compare_byte : FuncId := 47
theorem Fd.slices_Compare_byte : Pg.funcs[(47 : Nat)]? = some Tryd.f47 := Tryd.func47
noncomputable abbrev Fb.slices_Compare_byte : Func := Tryd.f47
abbrev Fn.slices_overlaps_store_item : FuncId := 48
theorem Fd.slices_overlaps_store_item : Pg.funcs[(48 : Nat)]? = some Tryd.f48 := Tryd.func48
noncomputable abbrev Fb.slices_overlaps_store_item : Func := Tryd.f48
abbrev Fn.slices_rotateRight_store_item : FuncId := 49
theorem Fd.slices_rotateRight_store_item : Pg.funcs[(49 : Nat)]? = some Tryd.f49 := Tryd.func49
noncomputable abbrev Fb.slices_rotateRight_store_item : Func := Tryd.f49
abbrev Fn.ref04_guess : FuncId := 50
theorem Fd.ref04_guess : Pg.funcs[(50 : Nat)]? = some Tryd.f50 := Tryd.func50
noncomputable abbrev Fb.ref04_guess : Func := Tryd.f50
abbrev Fn.ref04_May : FuncId := 51
theorem Fd.ref04_May : Pg.funcs[(51 : Nat)]? = some Tryd.f51 := Tryd.func51
noncomputable abbrev Fb.ref04_May : Func := Tryd.f51
abbrev Fn.ref04_one : FuncId := 52
theorem Fd.ref04_one : Pg.funcs[(52 : Nat)]? = some Tryd.f52 := Tryd.func52
noncomputable abbrev Fb.ref04_one : Func := Tryd.f52
abbrev Fn.ref01_Text : FuncId := 53
theorem Fd.ref01_Text : Pg.funcs[(53 : Nat)]? = some Tryd.f53 := Tryd.func53
noncomputable abbrev Fb.ref01_Text : Func := Tryd.f53
abbrev Fn.ref04_body : FuncId := 54
theorem Fd.ref04_body : Pg.funcs[(54 : Nat)]? = some Tryd.f54 := Tryd.func54
noncomputable abbrev Fb.ref04_body : Func := Tryd.f54
abbrev Fn.ref11_pick : FuncId := 55
theorem Fd.ref11_pick : Pg.funcs[(55 : Nat)]? = some Tryd.f55 := Tryd.func55
noncomputable abbrev Fb.ref11_pick : Func := Tryd.f55
abbrev Fn.ref11_name : FuncId := 56
theorem Fd.ref11_name : Pg.funcs[(56 : Nat)]? = some Tryd.f56 := Tryd.func56
noncomputable abbrev Fb.ref11_name : Func := Tryd.f56
abbrev Fn.ref02_turn : FuncId := 57
theorem Fd.ref02_turn : Pg.funcs[(57 : Nat)]? = some Tryd.f57 := Tryd.func57
noncomputable abbrev Fb.ref02_turn : Func := Tryd.f57
abbrev Fn.varint_Get : FuncId := 58
theorem Fd.varint_Get : Pg.funcs[(58 : Nat)]? = some Tryd.f58 := Tryd.func58
noncomputable abbrev Fb.varint_Get : Func := Tryd.f58
abbrev Fn.object_reader_bytes : FuncId := 59
theorem Fd.object_reader_bytes : Pg.funcs[(59 : Nat)]? = some Tryd.f59 := Tryd.func59
noncomputable abbrev Fb.object_reader_bytes : Func := Tryd.f59
abbrev Fn.object_reader_kind : FuncId := 60
theorem Fd.object_reader_kind : Pg.funcs[(60 : Nat)]? = some Tryd.f60 := Tryd.func60
noncomputable abbrev Fb.object_reader_kind : Func := Tryd.f60
abbrev Fn.object_reader_text : FuncId := 61
theorem Fd.object_reader_text : Pg.funcs[(61 : Nat)]? = some Tryd.f61 := Tryd.func61
noncomputable abbrev Fb.object_reader_text : Func := Tryd.f61
abbrev Fn.object_reader_id : FuncId := 62
theorem Fd.object_reader_id : Pg.funcs[(62 : Nat)]? = some Tryd.f62 := Tryd.func62
noncomputable abbrev Fb.object_reader_id : Func := Tryd.f62
abbrev Fn.object_reader_number : FuncId := 63
theorem Fd.object_reader_number : Pg.funcs[(63 : Nat)]? = some Tryd.f63 := Tryd.func63
noncomputable abbrev Fb.object_reader_number : Func := Tryd.f63
abbrev Fn.object_alone : FuncId := 64
theorem Fd.object_alone : Pg.funcs[(64 : Nat)]? = some Tryd.f64 := Tryd.func64
noncomputable abbrev Fb.object_alone : Func := Tryd.f64
abbrev Fn.object_entries : FuncId := 65
theorem Fd.object_entries : Pg.funcs[(65 : Nat)]? = some Tryd.f65 := Tryd.func65
noncomputable abbrev Fb.object_entries : Func := Tryd.f65
abbrev Fn.object_kind : FuncId := 66
theorem Fd.object_kind : Pg.funcs[(66 : Nat)]? = some Tryd.f66 := Tryd.func66
noncomputable abbrev Fb.object_kind : Func := Tryd.f66
abbrev Fn.object_Name : FuncId := 67
theorem Fd.object_Name : Pg.funcs[(67 : Nat)]? = some Tryd.f67 := Tryd.func67
noncomputable abbrev Fb.object_Name : Func := Tryd.f67
abbrev Fn.strings_Join : FuncId := 68
theorem Fd.strings_Join : Pg.funcs[(68 : Nat)]? = some Tryd.f68 := Tryd.func68
noncomputable abbrev Fb.strings_Join : Func := Tryd.f68
abbrev Fn.strings_Repeat : FuncId := 69
theorem Fd.strings_Repeat : Pg.funcs[(69 : Nat)]? = some Tryd.f69 := Tryd.func69
noncomputable abbrev Fb.strings_Repeat : Func := Tryd.f69
abbrev Fn.sha256_block : FuncId := 70
theorem Fd.sha256_block : Pg.funcs[(70 : Nat)]? = some Tryd.f70 := Tryd.func70
noncomputable abbrev Fb.sha256_block : Func := Tryd.f70
abbrev Fn.cmp_Compare_byte : FuncId := 71
theorem Fd.cmp_Compare_byte : Pg.funcs[(71 : Nat)]? = some Tryd.f71 := Tryd.func71
noncomputable abbrev Fb.cmp_Compare_byte : Func := Tryd.f71
abbrev Fn.slices_rotateLeft_store_item : FuncId := 72
theorem Fd.slices_rotateLeft_store_item : Pg.funcs[(72 : Nat)]? = some Tryd.f72 := Tryd.func72
noncomputable abbrev Fb.slices_rotateLeft_store_item : Func := Tryd.f72
abbrev Fn.ref01_Take : FuncId := 73
theorem Fd.ref01_Take : Pg.funcs[(73 : Nat)]? = some Tryd.f73 := Tryd.func73
noncomputable abbrev Fb.ref01_Take : Func := Tryd.f73
abbrev Fn.ref04_behind : FuncId := 74
theorem Fd.ref04_behind : Pg.funcs[(74 : Nat)]? = some Tryd.f74 := Tryd.func74
noncomputable abbrev Fb.ref04_behind : Func := Tryd.f74
abbrev Fn.ref04_id : FuncId := 75
theorem Fd.ref04_id : Pg.funcs[(75 : Nat)]? = some Tryd.f75 := Tryd.func75
noncomputable abbrev Fb.ref04_id : Func := Tryd.f75
abbrev Fn.ref01_Get : FuncId := 76
theorem Fd.ref01_Get : Pg.funcs[(76 : Nat)]? = some Tryd.f76 := Tryd.func76
noncomputable abbrev Fb.ref01_Get : Func := Tryd.f76
abbrev Fn.ref04_Name : FuncId := 77
theorem Fd.ref04_Name : Pg.funcs[(77 : Nat)]? = some Tryd.f77 := Tryd.func77
noncomputable abbrev Fb.ref04_Name : Func := Tryd.f77
abbrev Fn.ref01_Put : FuncId := 78
theorem Fd.ref01_Put : Pg.funcs[(78 : Nat)]? = some Tryd.f78 := Tryd.func78
noncomputable abbrev Fb.ref01_Put : Func := Tryd.f78
abbrev Fn.ref04_bytes : FuncId := 79
theorem Fd.ref04_bytes : Pg.funcs[(79 : Nat)]? = some Tryd.f79 := Tryd.func79
noncomputable abbrev Fb.ref04_bytes : Func := Tryd.f79
abbrev Fn.strings_IndexByte : FuncId := 80
theorem Fd.strings_IndexByte : Pg.funcs[(80 : Nat)]? = some Tryd.f80 := Tryd.func80
noncomputable abbrev Fb.strings_IndexByte : Func := Tryd.f80
abbrev Fn.strings_Builder_Grow : FuncId := 81
theorem Fd.strings_Builder_Grow : Pg.funcs[(81 : Nat)]? = some Tryd.f81 := Tryd.func81
noncomputable abbrev Fb.strings_Builder_Grow : Func := Tryd.f81
abbrev Fn.strings_Builder_WriteString : FuncId := 82
theorem Fd.strings_Builder_WriteString : Pg.funcs[(82 : Nat)]? = some Tryd.f82 := Tryd.func82
noncomputable abbrev Fb.strings_Builder_WriteString : Func := Tryd.f82
abbrev Fn.strings_Builder_String : FuncId := 83
theorem Fd.strings_Builder_String : Pg.funcs[(83 : Nat)]? = some Tryd.f83 := Tryd.func83
noncomputable abbrev Fb.strings_Builder_String : Func := Tryd.f83
abbrev Fn.math_bits_Mul : FuncId := 84
theorem Fd.math_bits_Mul : Pg.funcs[(84 : Nat)]? = some Tryd.f84 := Tryd.func84
noncomputable abbrev Fb.math_bits_Mul : Func := Tryd.f84
abbrev Fn.strings_HasPrefix : FuncId := 85
theorem Fd.strings_HasPrefix : Pg.funcs[(85 : Nat)]? = some Tryd.f85 := Tryd.func85
noncomputable abbrev Fb.strings_HasPrefix : Func := Tryd.f85
abbrev Fn.strings_Builder_Len : FuncId := 86
theorem Fd.strings_Builder_Len : Pg.funcs[(86 : Nat)]? = some Tryd.f86 := Tryd.func86
noncomputable abbrev Fb.strings_Builder_Len : Func := Tryd.f86
abbrev Fn.math_bits_RotateLeft32 : FuncId := 87
theorem Fd.math_bits_RotateLeft32 : Pg.funcs[(87 : Nat)]? = some Tryd.f87 := Tryd.func87
noncomputable abbrev Fb.math_bits_RotateLeft32 : Func := Tryd.f87
abbrev Fn.sha256_words : FuncId := 88
theorem Fd.sha256_words : Pg.funcs[(88 : Nat)]? = some Tryd.f88 := Tryd.func88
noncomputable abbrev Fb.sha256_words : Func := Tryd.f88
abbrev Fn.cmp_isNaN_byte : FuncId := 89
theorem Fd.cmp_isNaN_byte : Pg.funcs[(89 : Nat)]? = some Tryd.f89 := Tryd.func89
noncomputable abbrev Fb.cmp_isNaN_byte : Func := Tryd.f89
abbrev Fn.slices_Reverse_store_item : FuncId := 90
theorem Fd.slices_Reverse_store_item : Pg.funcs[(90 : Nat)]? = some Tryd.f90 := Tryd.func90
noncomputable abbrev Fb.slices_Reverse_store_item : Func := Tryd.f90
abbrev Fn.internal_stringslite_IndexByte : FuncId := 91
theorem Fd.internal_stringslite_IndexByte : Pg.funcs[(91 : Nat)]? = some Tryd.f91 := Tryd.func91
noncomputable abbrev Fb.internal_stringslite_IndexByte : Func := Tryd.f91
abbrev Fn.strings_Builder_copyCheck : FuncId := 92
theorem Fd.strings_Builder_copyCheck : Pg.funcs[(92 : Nat)]? = some Tryd.f92 := Tryd.func92
noncomputable abbrev Fb.strings_Builder_copyCheck : Func := Tryd.f92
abbrev Fn.strings_Builder_grow : FuncId := 93
theorem Fd.strings_Builder_grow : Pg.funcs[(93 : Nat)]? = some Tryd.f93 := Tryd.func93
noncomputable abbrev Fb.strings_Builder_grow : Func := Tryd.f93
abbrev Fn.math_bits_Mul32 : FuncId := 94
theorem Fd.math_bits_Mul32 : Pg.funcs[(94 : Nat)]? = some Tryd.f94 := Tryd.func94
noncomputable abbrev Fb.math_bits_Mul32 : Func := Tryd.f94
abbrev Fn.math_bits_Mul64 : FuncId := 95
theorem Fd.math_bits_Mul64 : Pg.funcs[(95 : Nat)]? = some Tryd.f95 := Tryd.func95
noncomputable abbrev Fb.math_bits_Mul64 : Func := Tryd.f95
abbrev Fn.internal_stringslite_HasPrefix : FuncId := 96
theorem Fd.internal_stringslite_HasPrefix : Pg.funcs[(96 : Nat)]? = some Tryd.f96 := Tryd.func96
noncomputable abbrev Fb.internal_stringslite_HasPrefix : Func := Tryd.f96
abbrev Fn.internal_bytealg_IndexByteString : FuncId := 97
theorem Fd.internal_bytealg_IndexByteString : Pg.funcs[(97 : Nat)]? = some Tryd.f97 := Tryd.func97
noncomputable abbrev Fb.internal_bytealg_IndexByteString : Func := Tryd.f97
abbrev Fn.internal_abi_NoEscape : FuncId := 98
theorem Fd.internal_abi_NoEscape : Pg.funcs[(98 : Nat)]? = some Tryd.f98 := Tryd.func98
noncomputable abbrev Fb.internal_abi_NoEscape : Func := Tryd.f98
abbrev Fn.internal_bytealg_MakeNoZero : FuncId := 99
theorem Fd.internal_bytealg_MakeNoZero : Pg.funcs[(99 : Nat)]? = some Tryd.f99 := Tryd.func99
noncomputable abbrev Fb.internal_bytealg_MakeNoZero : Func := Tryd.f99
abbrev Fn.runtime_boundsError_Error : FuncId := 100
theorem Fd.runtime_boundsError_Error : Pg.funcs[(100 : Nat)]? = some Tryd.f100 := Tryd.func100
noncomputable abbrev Fb.runtime_boundsError_Error : Func := Tryd.f100
abbrev Fn.runtime_boundsError_RuntimeError : FuncId := 101
theorem Fd.runtime_boundsError_RuntimeError : Pg.funcs[(101 : Nat)]? = some Tryd.f101 := Tryd.func101
noncomputable abbrev Fb.runtime_boundsError_RuntimeError : Func := Tryd.f101
abbrev Fn.runtime_errorString_Error : FuncId := 102
theorem Fd.runtime_errorString_Error : Pg.funcs[(102 : Nat)]? = some Tryd.f102 := Tryd.func102
noncomputable abbrev Fb.runtime_errorString_Error : Func := Tryd.f102
abbrev Fn.runtime_errorString_RuntimeError : FuncId := 103
theorem Fd.runtime_errorString_RuntimeError : Pg.funcs[(103 : Nat)]? = some Tryd.f103 := Tryd.func103
noncomputable abbrev Fb.runtime_errorString_RuntimeError : Func := Tryd.f103
abbrev Fn.runtime_plainError_Error : FuncId := 104
theorem Fd.runtime_plainError_Error : Pg.funcs[(104 : Nat)]? = some Tryd.f104 := Tryd.func104
noncomputable abbrev Fb.runtime_plainError_Error : Func := Tryd.f104
abbrev Fn.runtime_plainError_RuntimeError : FuncId := 105
theorem Fd.runtime_plainError_RuntimeError : Pg.funcs[(105 : Nat)]? = some Tryd.f105 := Tryd.func105
noncomputable abbrev Fb.runtime_plainError_RuntimeError : Func := Tryd.f105
abbrev Fn.runtime_errorAddressString_Error : FuncId := 106
theorem Fd.runtime_errorAddressString_Error : Pg.funcs[(106 : Nat)]? = some Tryd.f106 := Tryd.func106
noncomputable abbrev Fb.runtime_errorAddressString_Error : Func := Tryd.f106
abbrev Fn.runtime_errorAddressString_RuntimeError : FuncId := 107
theorem Fd.runtime_errorAddressString_RuntimeError : Pg.funcs[(107 : Nat)]? = some Tryd.f107 := Tryd.func107
noncomputable abbrev Fb.runtime_errorAddressString_RuntimeError : Func := Tryd.f107
abbrev Fn.runtime_TypeAssertionError_Error : FuncId := 108
theorem Fd.runtime_TypeAssertionError_Error : Pg.funcs[(108 : Nat)]? = some Tryd.f108 := Tryd.func108
noncomputable abbrev Fb.runtime_TypeAssertionError_Error : Func := Tryd.f108
abbrev Fn.runtime_TypeAssertionError_RuntimeError : FuncId := 109
theorem Fd.runtime_TypeAssertionError_RuntimeError : Pg.funcs[(109 : Nat)]? = some Tryd.f109 := Tryd.func109
noncomputable abbrev Fb.runtime_TypeAssertionError_RuntimeError : Func := Tryd.f109
abbrev Fn.runtime_PanicNilError_Error : FuncId := 110
theorem Fd.runtime_PanicNilError_Error : Pg.funcs[(110 : Nat)]? = some Tryd.f110 := Tryd.func110
noncomputable abbrev Fb.runtime_PanicNilError_Error : Func := Tryd.f110
abbrev Fn.runtime_PanicNilError_RuntimeError : FuncId := 111
theorem Fd.runtime_PanicNilError_RuntimeError : Pg.funcs[(111 : Nat)]? = some Tryd.f111 := Tryd.func111
noncomputable abbrev Fb.runtime_PanicNilError_RuntimeError : Func := Tryd.f111
abbrev Fn.internal_abi_Type_Align : FuncId := 112
theorem Fd.internal_abi_Type_Align : Pg.funcs[(112 : Nat)]? = some Tryd.f112 := Tryd.func112
noncomputable abbrev Fb.internal_abi_Type_Align : Func := Tryd.f112
abbrev Fn.internal_runtime_maps_unhashableTypeError_Error : FuncId := 113
theorem Fd.internal_runtime_maps_unhashableTypeError_Error : Pg.funcs[(113 : Nat)]? = some Tryd.f113 := Tryd.func113
noncomputable abbrev Fb.internal_runtime_maps_unhashableTypeError_Error : Func := Tryd.f113
abbrev Fn.internal_runtime_maps_unhashableTypeError_RuntimeError : FuncId := 114
theorem Fd.internal_runtime_maps_unhashableTypeError_RuntimeError : Pg.funcs[(114 : Nat)]? = some Tryd.f114 := Tryd.func114
noncomputable abbrev Fb.internal_runtime_maps_unhashableTypeError_RuntimeError : Func := Tryd.f114
abbrev Fn.strings_Builder_Reset : FuncId := 115
theorem Fd.strings_Builder_Reset : Pg.funcs[(115 : Nat)]? = some Tryd.f115 := Tryd.func115
noncomputable abbrev Fb.strings_Builder_Reset : Func := Tryd.f115
abbrev Fn.internal_abi_Kind_String : FuncId := 116
theorem Fd.internal_abi_Kind_String : Pg.funcs[(116 : Nat)]? = some Tryd.f116 := Tryd.func116
noncomputable abbrev Fb.internal_abi_Kind_String : Func := Tryd.f116
abbrev Fn.var_s_door_gosem_cut_vars_holds_initialisers_alone_see_the_manifest_s_row_cutvarsword_look_11_test_files_too : FuncId := 117
theorem Fd.var_s_door_gosem_cut_vars_holds_initialisers_alone_see_the_manifest_s_row_cutvarsword_look_11_test_files_too : Pg.funcs[(117 : Nat)]? = some Tryd.f117 := Tryd.func117
noncomputable abbrev Fb.var_s_door_gosem_cut_vars_holds_initialisers_alone_see_the_manifest_s_row_cutvarsword_look_11_test_files_too : Func := Tryd.f117
abbrev Fn.var_s_door_sha256_constants_is_laid_by_its_own_initialiser_plain_data_look_11 : FuncId := 118
theorem Fd.var_s_door_sha256_constants_is_laid_by_its_own_initialiser_plain_data_look_11 : Pg.funcs[(118 : Nat)]? = some Tryd.f118 := Tryd.func118
noncomputable abbrev Fb.var_s_door_sha256_constants_is_laid_by_its_own_initialiser_plain_data_look_11 : Func := Tryd.f118
abbrev Fn.var_s_door_the_look_of_gosem_cut_vars_went_over_the_folder_that_the_caller_named_as_the_repository_s_root_look_11 : FuncId := 119
theorem Fd.var_s_door_the_look_of_gosem_cut_vars_went_over_the_folder_that_the_caller_named_as_the_repository_s_root_look_11 : Pg.funcs[(119 : Nat)]? = some Tryd.f119 := Tryd.func119
noncomputable abbrev Fb.var_s_door_the_look_of_gosem_cut_vars_went_over_the_folder_that_the_caller_named_as_the_repository_s_root_look_11 : Func := Tryd.f119
abbrev Fn.gosem_cut_vars : FuncId := 120
theorem Fd.gosem_cut_vars : Pg.funcs[(120 : Nat)]? = some Tryd.f120 := Tryd.func120
noncomputable abbrev Fb.gosem_cut_vars : Func := Tryd.f120
abbrev Tn.int64 : Nat := 2
abbrev Tn.int : Nat := 3
abbrev Tn.bool : Nat := 4
abbrev Tn.uint8 : Nat := 5
abbrev Tn.abi_BoundsErrorCode : Nat := 6
abbrev Tn.runtime_boundsError : Nat := 8
abbrev Tn.string : Nat := 9
abbrev Tn.runtime_errorString : Nat := 10
abbrev Tn.runtime_plainError : Nat := 11
abbrev Tn.uintptr : Nat := 12
abbrev Tn.runtime_errorAddressString : Nat := 14
abbrev Tn.p_runtime_TypeAssertionError : Nat := 15
abbrev Tn.p_runtime_PanicNilError : Nat := 16
abbrev Tn.p_abi_Type : Nat := 17
abbrev Tn.maps_unhashableTypeError : Nat := 19
abbrev Tn.int32 : Nat := 21
abbrev Tn.sl_string : Nat := 22
abbrev Tn.arr32_uint8 : Nat := 23
abbrev Tn.api_Id : Nat := 24
abbrev Tn.p_store_Store : Nat := 25
abbrev Tn.sl_ref11_Item : Nat := 28
abbrev Tn.ref11_Store : Nat := 30
abbrev Tn.api_Errno : Nat := 31
abbrev Tn.sl_api_Entry : Nat := 37
abbrev Tn.sl_api_Id : Nat := 38
abbrev Tn.uint32 : Nat := 39
abbrev Tn.api_Object : Nat := 41
abbrev Tn.sl_ref11_Seed : Nat := 51
abbrev Tn.ref11_Item : Nat := 57
abbrev Tn.sl_store_item : Nat := 61
abbrev Tn.store_Store : Nat := 63
abbrev Tn.store_item : Nat := 71
abbrev Tn.api_Entry : Nat := 76
abbrev Tn.sl_uint8 : Nat := 77
abbrev Tn.uint16 : Nat := 78
abbrev Tn.ref11_Seed : Nat := 80
abbrev Tn.uint64 : Nat := 84
abbrev Tn.uint : Nat := 85
abbrev Tn.arr8_uint32 : Nat := 86
abbrev Tn.arr64_uint32 : Nat := 87
abbrev Tn.p_object_reader : Nat := 92
abbrev Tn.object_reader : Nat := 94
abbrev Tn.p_api_Object : Nat := 97
abbrev Tn.p_strings_Builder : Nat := 131
abbrev Tn.strings_Builder : Nat := 133
abbrev Tn.error : Nat := 136
abbrev Tn.sl_uint32 : Nat := 144
abbrev Tn.p_uint8 : Nat := 147
abbrev Tn.unsafe_Pointer : Nat := 152
abbrev Tn.runtime_TypeAssertionError : Nat := 156
abbrev Tn.arr0_p_runtime_PanicNilError : Nat := 157
abbrev Tn.runtime_PanicNilError : Nat := 159
abbrev Tn.abi_TFlag : Nat := 160
abbrev Tn.abi_Kind : Nat := 161
abbrev Tn.abi_NameOff : Nat := 163
abbrev Tn.abi_TypeOff : Nat := 164
abbrev Tn.abi_Type : Nat := 166
-- g 0 knapsack/sha256.constants
abbrev Gv.sha256_constants : Nat := 0
-- g 1 internal/bytealg.MaxLen
abbrev Gv.internal_bytealg_MaxLen : Nat := 1
end Go.Kn
