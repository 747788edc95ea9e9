/- The numbers of this translation under names. Written by a program of this claim. -/
import Derived.Test.YtiibdlpfgmeifaaGreatDoorKn04
set_option autoImplicit false
namespace Go.Kn
open Go Go.Proofs
noncomputable abbrev Pg : Program := Tryz.prog
abbrev Fn.gosem_cut : FuncId := 1
theorem Fd.gosem_cut : Pg.funcs[(1 : Nat)]? = some Tryz.f1 := Tryz.func1
noncomputable abbrev Fb.gosem_cut : Func := Tryz.f1
abbrev Fn.gosem_cut_init : FuncId := 2
theorem Fd.gosem_cut_init : Pg.funcs[(2 : Nat)]? = some Tryz.f2 := Tryz.func2
noncomputable abbrev Fb.gosem_cut_init : Func := Tryz.f2
abbrev Fn.law14_CheckTells : FuncId := 3
theorem Fd.law14_CheckTells : Pg.funcs[(3 : Nat)]? = some Tryz.f3 := Tryz.func3
noncomputable abbrev Fb.law14_CheckTells : Func := Tryz.f3
abbrev Fn.law14_CheckMore : FuncId := 4
theorem Fd.law14_CheckMore : Pg.funcs[(4 : Nat)]? = some Tryz.f4 := Tryz.func4
noncomputable abbrev Fb.law14_CheckMore : Func := Tryz.f4
abbrev Fn.law12_GraphReaches : FuncId := 5
theorem Fd.law12_GraphReaches : Pg.funcs[(5 : Nat)]? = some Tryz.f5 := Tryz.func5
noncomputable abbrev Fb.law12_GraphReaches : Func := Tryz.f5
abbrev Fn.law12_GraphWalks : FuncId := 6
theorem Fd.law12_GraphWalks : Pg.funcs[(6 : Nat)]? = some Tryz.f6 := Tryz.func6
noncomputable abbrev Fb.law12_GraphWalks : Func := Tryz.f6
abbrev Fn.law12_GraphMore : FuncId := 7
theorem Fd.law12_GraphMore : Pg.funcs[(7 : Nat)]? = some Tryz.f7 := Tryz.func7
noncomputable abbrev Fb.law12_GraphMore : Func := Tryz.f7
abbrev Fn.law12_Few : FuncId := 8
theorem Fd.law12_Few : Pg.funcs[(8 : Nat)]? = some Tryz.f8 := Tryz.func8
noncomputable abbrev Fb.law12_Few : Func := Tryz.f8
abbrev Fn.law14_knows : FuncId := 9
theorem Fd.law14_knows : Pg.funcs[(9 : Nat)]? = some Tryz.f9 := Tryz.func9
noncomputable abbrev Fb.law14_knows : Func := Tryz.f9
abbrev Fn.law12_Named : FuncId := 10
theorem Fd.law12_Named : Pg.funcs[(10 : Nat)]? = some Tryz.f10 := Tryz.func10
noncomputable abbrev Fb.law12_Named : Func := Tryz.f10
abbrev Fn.law12_Ids : FuncId := 11
theorem Fd.law12_Ids : Pg.funcs[(11 : Nat)]? = some Tryz.f11 := Tryz.func11
noncomputable abbrev Fb.law12_Ids : Func := Tryz.f11
abbrev Fn.law14_Of : FuncId := 12
theorem Fd.law14_Of : Pg.funcs[(12 : Nat)]? = some Tryz.f12 := Tryz.func12
noncomputable abbrev Fb.law14_Of : Func := Tryz.f12
abbrev Fn.ref02_Sorted : FuncId := 13
theorem Fd.ref02_Sorted : Pg.funcs[(13 : Nat)]? = some Tryz.f13 := Tryz.func13
noncomputable abbrev Fb.ref02_Sorted : Func := Tryz.f13
abbrev Fn.check_Closed : FuncId := 14
theorem Fd.check_Closed : Pg.funcs[(14 : Nat)]? = some Tryz.f14 := Tryz.func14
noncomputable abbrev Fb.check_Closed : Func := Tryz.f14
abbrev Fn.ref14_Closed : FuncId := 15
theorem Fd.ref14_Closed : Pg.funcs[(15 : Nat)]? = some Tryz.f15 := Tryz.func15
noncomputable abbrev Fb.ref14_Closed : Func := Tryz.f15
abbrev Fn.check_Whole : FuncId := 16
theorem Fd.check_Whole : Pg.funcs[(16 : Nat)]? = some Tryz.f16 := Tryz.func16
noncomputable abbrev Fb.check_Whole : Func := Tryz.f16
abbrev Fn.ref14_Whole : FuncId := 17
theorem Fd.ref14_Whole : Pg.funcs[(17 : Nat)]? = some Tryz.f17 := Tryz.func17
noncomputable abbrev Fb.ref14_Whole : Func := Tryz.f17
abbrev Fn.ref11_Store_Kind : FuncId := 18
theorem Fd.ref11_Store_Kind : Pg.funcs[(18 : Nat)]? = some Tryz.f18 := Tryz.func18
noncomputable abbrev Fb.ref11_Store_Kind : Func := Tryz.f18
abbrev Fn.ref11_Store_Ids : FuncId := 19
theorem Fd.ref11_Store_Ids : Pg.funcs[(19 : Nat)]? = some Tryz.f19 := Tryz.func19
noncomputable abbrev Fb.ref11_Store_Ids : Func := Tryz.f19
abbrev Fn.ref12_Reach : FuncId := 20
theorem Fd.ref12_Reach : Pg.funcs[(20 : Nat)]? = some Tryz.f20 := Tryz.func20
noncomputable abbrev Fb.ref12_Reach : Func := Tryz.f20
abbrev Fn.ref11_Store_All : FuncId := 21
theorem Fd.ref11_Store_All : Pg.funcs[(21 : Nat)]? = some Tryz.f21 := Tryz.func21
noncomputable abbrev Fb.ref11_Store_All : Func := Tryz.f21
abbrev Fn.ref11_Store_Texts : FuncId := 22
theorem Fd.ref11_Store_Texts : Pg.funcs[(22 : Nat)]? = some Tryz.f22 := Tryz.func22
noncomputable abbrev Fb.ref11_Store_Texts : Func := Tryz.f22
abbrev Fn.ref11_Store_Has : FuncId := 23
theorem Fd.ref11_Store_Has : Pg.funcs[(23 : Nat)]? = some Tryz.f23 := Tryz.func23
noncomputable abbrev Fb.ref11_Store_Has : Func := Tryz.f23
abbrev Fn.law12_knows : FuncId := 24
theorem Fd.law12_knows : Pg.funcs[(24 : Nat)]? = some Tryz.f24 := Tryz.func24
noncomputable abbrev Fb.law12_knows : Func := Tryz.f24
abbrev Fn.law11_Of : FuncId := 25
theorem Fd.law11_Of : Pg.funcs[(25 : Nat)]? = some Tryz.f25 := Tryz.func25
noncomputable abbrev Fb.law11_Of : Func := Tryz.f25
abbrev Fn.graph_Reach : FuncId := 26
theorem Fd.graph_Reach : Pg.funcs[(26 : Nat)]? = some Tryz.f26 := Tryz.func26
noncomputable abbrev Fb.graph_Reach : Func := Tryz.f26
abbrev Fn.ref02_Same : FuncId := 27
theorem Fd.ref02_Same : Pg.funcs[(27 : Nat)]? = some Tryz.f27 := Tryz.func27
noncomputable abbrev Fb.ref02_Same : Func := Tryz.f27
abbrev Fn.graph_End : FuncId := 28
theorem Fd.graph_End : Pg.funcs[(28 : Nat)]? = some Tryz.f28 := Tryz.func28
noncomputable abbrev Fb.graph_End : Func := Tryz.f28
abbrev Fn.ref12_End : FuncId := 29
theorem Fd.ref12_End : Pg.funcs[(29 : Nat)]? = some Tryz.f29 := Tryz.func29
noncomputable abbrev Fb.ref12_End : Func := Tryz.f29
abbrev Fn.graph_Walk : FuncId := 30
theorem Fd.graph_Walk : Pg.funcs[(30 : Nat)]? = some Tryz.f30 := Tryz.func30
noncomputable abbrev Fb.graph_Walk : Func := Tryz.f30
abbrev Fn.ref12_Walk : FuncId := 31
theorem Fd.ref12_Walk : Pg.funcs[(31 : Nat)]? = some Tryz.f31 := Tryz.func31
noncomputable abbrev Fb.ref12_Walk : Func := Tryz.f31
abbrev Fn.law12_within : FuncId := 32
theorem Fd.law12_within : Pg.funcs[(32 : Nat)]? = some Tryz.f32 := Tryz.func32
noncomputable abbrev Fb.law12_within : Func := Tryz.f32
abbrev Fn.ref02_Rise : FuncId := 33
theorem Fd.ref02_Rise : Pg.funcs[(33 : Nat)]? = some Tryz.f33 := Tryz.func33
noncomputable abbrev Fb.ref02_Rise : Func := Tryz.f33
abbrev Fn.ref02_In : FuncId := 34
theorem Fd.ref02_In : Pg.funcs[(34 : Nat)]? = some Tryz.f34 := Tryz.func34
noncomputable abbrev Fb.ref02_In : Func := Tryz.f34
abbrev Fn.ref11_Store_Object : FuncId := 35
theorem Fd.ref11_Store_Object : Pg.funcs[(35 : Nat)]? = some Tryz.f35 := Tryz.func35
noncomputable abbrev Fb.ref11_Store_Object : Func := Tryz.f35
abbrev Fn.ref12_Ends : FuncId := 36
theorem Fd.ref12_Ends : Pg.funcs[(36 : Nat)]? = some Tryz.f36 := Tryz.func36
noncomputable abbrev Fb.ref12_Ends : Func := Tryz.f36
abbrev Fn.ref11_Few : FuncId := 37
theorem Fd.ref11_Few : Pg.funcs[(37 : Nat)]? = some Tryz.f37 := Tryz.func37
noncomputable abbrev Fb.ref11_Few : Func := Tryz.f37
abbrev Fn.ref11_Grow : FuncId := 38
theorem Fd.ref11_Grow : Pg.funcs[(38 : Nat)]? = some Tryz.f38 := Tryz.func38
noncomputable abbrev Fb.ref11_Grow : Func := Tryz.f38
abbrev Fn.store_New : FuncId := 39
theorem Fd.store_New : Pg.funcs[(39 : Nat)]? = some Tryz.f39 := Tryz.func39
noncomputable abbrev Fb.store_New : Func := Tryz.f39
abbrev Fn.store_Store_Len : FuncId := 40
theorem Fd.store_Store_Len : Pg.funcs[(40 : Nat)]? = some Tryz.f40 := Tryz.func40
noncomputable abbrev Fb.store_Store_Len : Func := Tryz.f40
abbrev Fn.ref02_Less : FuncId := 41
theorem Fd.ref02_Less : Pg.funcs[(41 : Nat)]? = some Tryz.f41 := Tryz.func41
noncomputable abbrev Fb.ref02_Less : Func := Tryz.f41
abbrev Fn.check_right : FuncId := 42
theorem Fd.check_right : Pg.funcs[(42 : Nat)]? = some Tryz.f42 := Tryz.func42
noncomputable abbrev Fb.check_right : Func := Tryz.f42
abbrev Fn.ref14_Right : FuncId := 43
theorem Fd.ref14_Right : Pg.funcs[(43 : Nat)]? = some Tryz.f43 := Tryz.func43
noncomputable abbrev Fb.ref14_Right : Func := Tryz.f43
abbrev Fn.ref_Fine : FuncId := 44
theorem Fd.ref_Fine : Pg.funcs[(44 : Nat)]? = some Tryz.f44 := Tryz.func44
noncomputable abbrev Fb.ref_Fine : Func := Tryz.f44
abbrev Fn.check_shallow : FuncId := 45
theorem Fd.check_shallow : Pg.funcs[(45 : Nat)]? = some Tryz.f45 := Tryz.func45
noncomputable abbrev Fb.check_shallow : Func := Tryz.f45
abbrev Fn.store_Store_Ids : FuncId := 46
theorem Fd.store_Store_Ids : Pg.funcs[(46 : Nat)]? = some Tryz.f46 := Tryz.func46
noncomputable abbrev Fb.store_Store_Ids : Func := Tryz.f46
abbrev Fn.store_Store_Kind : FuncId := 47
theorem Fd.store_Store_Kind : Pg.funcs[(47 : Nat)]? = some Tryz.f47 := Tryz.func47
noncomputable abbrev Fb.store_Store_Kind : Func := Tryz.f47
abbrev Fn.ref09_Fine : FuncId := 48
theorem Fd.ref09_Fine : Pg.funcs[(48 : Nat)]? = some Tryz.f48 := Tryz.func48
noncomputable abbrev Fb.ref09_Fine : Func := Tryz.f48
abbrev Fn.ref11_Store_At : FuncId := 49
theorem Fd.ref11_Store_At : Pg.funcs[(49 : Nat)]? = some Tryz.f49 := Tryz.func49
noncomputable abbrev Fb.ref11_Store_At : Func := Tryz.f49
abbrev Fn.ref12_Next : FuncId := 50
theorem Fd.ref12_Next : Pg.funcs[(50 : Nat)]? = some Tryz.f50 := Tryz.func50
noncomputable abbrev Fb.ref12_Next : Func := Tryz.f50
abbrev Fn.ref11_Store_With : FuncId := 51
theorem Fd.ref11_Store_With : Pg.funcs[(51 : Nat)]? = some Tryz.f51 := Tryz.func51
noncomputable abbrev Fb.ref11_Store_With : Func := Tryz.f51
abbrev Fn.ref04_Encode : FuncId := 52
theorem Fd.ref04_Encode : Pg.funcs[(52 : Nat)]? = some Tryz.f52 := Tryz.func52
noncomputable abbrev Fb.ref04_Encode : Func := Tryz.f52
abbrev Fn.ref02_Sum : FuncId := 53
theorem Fd.ref02_Sum : Pg.funcs[(53 : Nat)]? = some Tryz.f53 := Tryz.func53
noncomputable abbrev Fb.ref02_Sum : Func := Tryz.f53
abbrev Fn.store_Store_Put : FuncId := 54
theorem Fd.store_Store_Put : Pg.funcs[(54 : Nat)]? = some Tryz.f54 := Tryz.func54
noncomputable abbrev Fb.store_Store_Put : Func := Tryz.f54
abbrev Fn.graph_of : FuncId := 55
theorem Fd.graph_of : Pg.funcs[(55 : Nat)]? = some Tryz.f55 := Tryz.func55
noncomputable abbrev Fb.graph_of : Func := Tryz.f55
abbrev Fn.slices_Clone_api_Id : FuncId := 56
theorem Fd.slices_Clone_api_Id : Pg.funcs[(56 : Nat)]? = some Tryz.f56 := Tryz.func56
noncomputable abbrev Fb.slices_Clone_api_Id : Func := Tryz.f56
abbrev Fn.store_Store_Object : FuncId := 57
theorem Fd.store_Store_Object : Pg.funcs[(57 : Nat)]? = some Tryz.f57 := Tryz.func57
noncomputable abbrev Fb.store_Store_Object : Func := Tryz.f57
abbrev Fn.graph_set_add : FuncId := 58
theorem Fd.graph_set_add : Pg.funcs[(58 : Nat)]? = some Tryz.f58 := Tryz.func58
noncomputable abbrev Fb.graph_set_add : Func := Tryz.f58
abbrev Fn.graph_links : FuncId := 59
theorem Fd.graph_links : Pg.funcs[(59 : Nat)]? = some Tryz.f59 := Tryz.func59
noncomputable abbrev Fb.graph_links : Func := Tryz.f59
abbrev Fn.graph_walker_offer : FuncId := 60
theorem Fd.graph_walker_offer : Pg.funcs[(60 : Nat)]? = some Tryz.f60 := Tryz.func60
noncomputable abbrev Fb.graph_walker_offer : Func := Tryz.f60
abbrev Fn.graph_queue_Len : FuncId := 61
theorem Fd.graph_queue_Len : Pg.funcs[(61 : Nat)]? = some Tryz.f61 := Tryz.func61
noncomputable abbrev Fb.graph_queue_Len : Func := Tryz.f61
abbrev Fn.graph_walker_next : FuncId := 62
theorem Fd.graph_walker_next : Pg.funcs[(62 : Nat)]? = some Tryz.f62 := Tryz.func62
noncomputable abbrev Fb.graph_walker_next : Func := Tryz.f62
abbrev Fn.graph_set_has : FuncId := 63
theorem Fd.graph_set_has : Pg.funcs[(63 : Nat)]? = some Tryz.f63 := Tryz.func63
noncomputable abbrev Fb.graph_set_has : Func := Tryz.f63
abbrev Fn.ref12_ahead : FuncId := 64
theorem Fd.ref12_ahead : Pg.funcs[(64 : Nat)]? = some Tryz.f64 := Tryz.func64
noncomputable abbrev Fb.ref12_ahead : Func := Tryz.f64
abbrev Fn.ref11_make1 : FuncId := 65
theorem Fd.ref11_make1 : Pg.funcs[(65 : Nat)]? = some Tryz.f65 := Tryz.func65
noncomputable abbrev Fb.ref11_make1 : Func := Tryz.f65
abbrev Fn.slices_Contains_api_Id : FuncId := 66
theorem Fd.slices_Contains_api_Id : Pg.funcs[(66 : Nat)]? = some Tryz.f66 := Tryz.func66
noncomputable abbrev Fb.slices_Contains_api_Id : Func := Tryz.f66
abbrev Fn.object_Links : FuncId := 67
theorem Fd.object_Links : Pg.funcs[(67 : Nat)]? = some Tryz.f67 := Tryz.func67
noncomputable abbrev Fb.object_Links : Func := Tryz.f67
abbrev Fn.ref11_Store_Links : FuncId := 68
theorem Fd.ref11_Store_Links : Pg.funcs[(68 : Nat)]? = some Tryz.f68 := Tryz.func68
noncomputable abbrev Fb.ref11_Store_Links : Func := Tryz.f68
abbrev Fn.ref_Name : FuncId := 69
theorem Fd.ref_Name : Pg.funcs[(69 : Nat)]? = some Tryz.f69 := Tryz.func69
noncomputable abbrev Fb.ref_Name : Func := Tryz.f69
abbrev Fn.ref_none : FuncId := 70
theorem Fd.ref_none : Pg.funcs[(70 : Nat)]? = some Tryz.f70 := Tryz.func70
noncomputable abbrev Fb.ref_none : Func := Tryz.f70
abbrev Fn.sha256_Less : FuncId := 71
theorem Fd.sha256_Less : Pg.funcs[(71 : Nat)]? = some Tryz.f71 := Tryz.func71
noncomputable abbrev Fb.sha256_Less : Func := Tryz.f71
abbrev Fn.store_Store_Get : FuncId := 72
theorem Fd.store_Store_Get : Pg.funcs[(72 : Nat)]? = some Tryz.f72 := Tryz.func72
noncomputable abbrev Fb.store_Store_Get : Func := Tryz.f72
abbrev Fn.ref09_Name : FuncId := 73
theorem Fd.ref09_Name : Pg.funcs[(73 : Nat)]? = some Tryz.f73 := Tryz.func73
noncomputable abbrev Fb.ref09_Name : Func := Tryz.f73
abbrev Fn.ref04_Decode : FuncId := 74
theorem Fd.ref04_Decode : Pg.funcs[(74 : Nat)]? = some Tryz.f74 := Tryz.func74
noncomputable abbrev Fb.ref04_Decode : Func := Tryz.f74
abbrev Fn.ref04_May : FuncId := 75
theorem Fd.ref04_May : Pg.funcs[(75 : Nat)]? = some Tryz.f75 := Tryz.func75
noncomputable abbrev Fb.ref04_May : Func := Tryz.f75
abbrev Fn.ref04_one : FuncId := 76
theorem Fd.ref04_one : Pg.funcs[(76 : Nat)]? = some Tryz.f76 := Tryz.func76
noncomputable abbrev Fb.ref04_one : Func := Tryz.f76
abbrev Fn.ref01_Text : FuncId := 77
theorem Fd.ref01_Text : Pg.funcs[(77 : Nat)]? = some Tryz.f77 := Tryz.func77
noncomputable abbrev Fb.ref01_Text : Func := Tryz.f77
abbrev Fn.ref04_body : FuncId := 78
theorem Fd.ref04_body : Pg.funcs[(78 : Nat)]? = some Tryz.f78 := Tryz.func78
noncomputable abbrev Fb.ref04_body : Func := Tryz.f78
abbrev Fn.ref02_k : FuncId := 79
theorem Fd.ref02_k : Pg.funcs[(79 : Nat)]? = some Tryz.f79 := Tryz.func79
noncomputable abbrev Fb.ref02_k : Func := Tryz.f79
abbrev Fn.ref02_block : FuncId := 80
theorem Fd.ref02_block : Pg.funcs[(80 : Nat)]? = some Tryz.f80 := Tryz.func80
noncomputable abbrev Fb.ref02_block : Func := Tryz.f80
abbrev Fn.object_Decode : FuncId := 81
theorem Fd.object_Decode : Pg.funcs[(81 : Nat)]? = some Tryz.f81 := Tryz.func81
noncomputable abbrev Fb.object_Decode : Func := Tryz.f81
abbrev Fn.object_Id : FuncId := 82
theorem Fd.object_Id : Pg.funcs[(82 : Nat)]? = some Tryz.f82 := Tryz.func82
noncomputable abbrev Fb.object_Id : Func := Tryz.f82
abbrev Fn.store_Store_place : FuncId := 83
theorem Fd.store_Store_place : Pg.funcs[(83 : Nat)]? = some Tryz.f83 := Tryz.func83
noncomputable abbrev Fb.store_Store_place : Func := Tryz.f83
abbrev Fn.slices_Insert_store_item : FuncId := 84
theorem Fd.slices_Insert_store_item : Pg.funcs[(84 : Nat)]? = some Tryz.f84 := Tryz.func84
noncomputable abbrev Fb.slices_Insert_store_item : Func := Tryz.f84
abbrev Fn.slices_BinarySearchFunc_graph_set_api_Id_api_Id : FuncId := 85
theorem Fd.slices_BinarySearchFunc_graph_set_api_Id_api_Id : Pg.funcs[(85 : Nat)]? = some Tryz.f85 := Tryz.func85
noncomputable abbrev Fb.slices_BinarySearchFunc_graph_set_api_Id_api_Id : Func := Tryz.f85
abbrev Fn.graph_compare : FuncId := 86
theorem Fd.graph_compare : Pg.funcs[(86 : Nat)]? = some Tryz.f86 := Tryz.func86
noncomputable abbrev Fb.graph_compare : Func := Tryz.f86
abbrev Fn.slices_Insert_graph_set_api_Id : FuncId := 87
theorem Fd.slices_Insert_graph_set_api_Id : Pg.funcs[(87 : Nat)]? = some Tryz.f87 := Tryz.func87
noncomputable abbrev Fb.slices_Insert_graph_set_api_Id : Func := Tryz.f87
abbrev Fn.container_heap_Push : FuncId := 88
theorem Fd.container_heap_Push : Pg.funcs[(88 : Nat)]? = some Tryz.f88 := Tryz.func88
noncomputable abbrev Fb.container_heap_Push : Func := Tryz.f88
abbrev Fn.container_heap_Pop : FuncId := 89
theorem Fd.container_heap_Pop : Pg.funcs[(89 : Nat)]? = some Tryz.f89 := Tryz.func89
noncomputable abbrev Fb.container_heap_Pop : Func := Tryz.f89
abbrev Fn.ref11_pick : FuncId := 90
theorem Fd.ref11_pick : Pg.funcs[(90 : Nat)]? = some Tryz.f90 := Tryz.func90
noncomputable abbrev Fb.ref11_pick : Func := Tryz.f90
abbrev Fn.ref11_name : FuncId := 91
theorem Fd.ref11_name : Pg.funcs[(91 : Nat)]? = some Tryz.f91 := Tryz.func91
noncomputable abbrev Fb.ref11_name : Func := Tryz.f91
abbrev Fn.slices_Index_api_Id : FuncId := 92
theorem Fd.slices_Index_api_Id : Pg.funcs[(92 : Nat)]? = some Tryz.f92 := Tryz.func92
noncomputable abbrev Fb.slices_Index_api_Id : Func := Tryz.f92
abbrev Fn.ref04_Links : FuncId := 93
theorem Fd.ref04_Links : Pg.funcs[(93 : Nat)]? = some Tryz.f93 := Tryz.func93
noncomputable abbrev Fb.ref04_Links : Func := Tryz.f93
abbrev Fn.ref04_guess : FuncId := 94
theorem Fd.ref04_guess : Pg.funcs[(94 : Nat)]? = some Tryz.f94 := Tryz.func94
noncomputable abbrev Fb.ref04_guess : Func := Tryz.f94
abbrev Fn.ref04_Name : FuncId := 95
theorem Fd.ref04_Name : Pg.funcs[(95 : Nat)]? = some Tryz.f95 := Tryz.func95
noncomputable abbrev Fb.ref04_Name : Func := Tryz.f95
abbrev Fn.ref01_Put : FuncId := 96
theorem Fd.ref01_Put : Pg.funcs[(96 : Nat)]? = some Tryz.f96 := Tryz.func96
noncomputable abbrev Fb.ref01_Put : Func := Tryz.f96
abbrev Fn.ref04_bytes : FuncId := 97
theorem Fd.ref04_bytes : Pg.funcs[(97 : Nat)]? = some Tryz.f97 := Tryz.func97
noncomputable abbrev Fb.ref04_bytes : Func := Tryz.f97
abbrev Fn.ref02_turn : FuncId := 98
theorem Fd.ref02_turn : Pg.funcs[(98 : Nat)]? = some Tryz.f98 := Tryz.func98
noncomputable abbrev Fb.ref02_turn : Func := Tryz.f98
abbrev Fn.varint_Take : FuncId := 99
theorem Fd.varint_Take : Pg.funcs[(99 : Nat)]? = some Tryz.f99 := Tryz.func99
noncomputable abbrev Fb.varint_Take : Func := Tryz.f99
abbrev Fn.object_reader_blob : FuncId := 100
theorem Fd.object_reader_blob : Pg.funcs[(100 : Nat)]? = some Tryz.f100 := Tryz.func100
noncomputable abbrev Fb.object_reader_blob : Func := Tryz.f100
abbrev Fn.object_reader_tree : FuncId := 101
theorem Fd.object_reader_tree : Pg.funcs[(101 : Nat)]? = some Tryz.f101 := Tryz.func101
noncomputable abbrev Fb.object_reader_tree : Func := Tryz.f101
abbrev Fn.object_reader_commit : FuncId := 102
theorem Fd.object_reader_commit : Pg.funcs[(102 : Nat)]? = some Tryz.f102 := Tryz.func102
noncomputable abbrev Fb.object_reader_commit : Func := Tryz.f102
abbrev Fn.object_reader_tag : FuncId := 103
theorem Fd.object_reader_tag : Pg.funcs[(103 : Nat)]? = some Tryz.f103 := Tryz.func103
noncomputable abbrev Fb.object_reader_tag : Func := Tryz.f103
abbrev Fn.object_may : FuncId := 104
theorem Fd.object_may : Pg.funcs[(104 : Nat)]? = some Tryz.f104 := Tryz.func104
noncomputable abbrev Fb.object_may : Func := Tryz.f104
abbrev Fn.sha256_Sum : FuncId := 105
theorem Fd.sha256_Sum : Pg.funcs[(105 : Nat)]? = some Tryz.f105 := Tryz.func105
noncomputable abbrev Fb.sha256_Sum : Func := Tryz.f105
abbrev Fn.slices_BinarySearchFunc_store_item_api_Id : FuncId := 106
theorem Fd.slices_BinarySearchFunc_store_item_api_Id : Pg.funcs[(106 : Nat)]? = some Tryz.f106 := Tryz.func106
noncomputable abbrev Fb.slices_BinarySearchFunc_store_item_api_Id : Func := Tryz.f106
abbrev Fn.store_Store_place_c1 : FuncId := 107
theorem Fd.store_Store_place_c1 : Pg.funcs[(107 : Nat)]? = some Tryz.f107 := Tryz.func107
noncomputable abbrev Fb.store_Store_place_c1 : Func := Tryz.f107
abbrev Fn.slices_Compare_byte : FuncId := 108
theorem Fd.slices_Compare_byte : Pg.funcs[(108 : Nat)]? = some Tryz.f108 := Tryz.func108
noncomputable abbrev Fb.slices_Compare_byte : Func := Tryz.f108
abbrev Fn.slices_overlaps_store_item : FuncId := 109
theorem Fd.slices_overlaps_store_item : Pg.funcs[(109 : Nat)]? = some Tryz.f109 := Tryz.func109
noncomputable abbrev Fb.slices_overlaps_store_item : Func := Tryz.f109
abbrev Fn.slices_rotateRight_store_item : FuncId := 110
theorem Fd.slices_rotateRight_store_item : Pg.funcs[(110 : Nat)]? = some Tryz.f110 := Tryz.func110
noncomputable abbrev Fb.slices_rotateRight_store_item : Func := Tryz.f110
abbrev Fn.slices_overlaps_api_Id : FuncId := 111
theorem Fd.slices_overlaps_api_Id : Pg.funcs[(111 : Nat)]? = some Tryz.f111 := Tryz.func111
noncomputable abbrev Fb.slices_overlaps_api_Id : Func := Tryz.f111
abbrev Fn.slices_rotateRight_api_Id : FuncId := 112
theorem Fd.slices_rotateRight_api_Id : Pg.funcs[(112 : Nat)]? = some Tryz.f112 := Tryz.func112
noncomputable abbrev Fb.slices_rotateRight_api_Id : Func := Tryz.f112
abbrev Fn.container_heap_up : FuncId := 113
theorem Fd.container_heap_up : Pg.funcs[(113 : Nat)]? = some Tryz.f113 := Tryz.func113
noncomputable abbrev Fb.container_heap_up : Func := Tryz.f113
abbrev Fn.container_heap_down : FuncId := 114
theorem Fd.container_heap_down : Pg.funcs[(114 : Nat)]? = some Tryz.f114 := Tryz.func114
noncomputable abbrev Fb.container_heap_down : Func := Tryz.f114
abbrev Fn.ref01_Take : FuncId := 115
theorem Fd.ref01_Take : Pg.funcs[(115 : Nat)]? = some Tryz.f115 := Tryz.func115
noncomputable abbrev Fb.ref01_Take : Func := Tryz.f115
abbrev Fn.ref04_behind : FuncId := 116
theorem Fd.ref04_behind : Pg.funcs[(116 : Nat)]? = some Tryz.f116 := Tryz.func116
noncomputable abbrev Fb.ref04_behind : Func := Tryz.f116
abbrev Fn.ref04_id : FuncId := 117
theorem Fd.ref04_id : Pg.funcs[(117 : Nat)]? = some Tryz.f117 := Tryz.func117
noncomputable abbrev Fb.ref04_id : Func := Tryz.f117
abbrev Fn.ref01_Get : FuncId := 118
theorem Fd.ref01_Get : Pg.funcs[(118 : Nat)]? = some Tryz.f118 := Tryz.func118
noncomputable abbrev Fb.ref01_Get : Func := Tryz.f118
abbrev Fn.varint_Get : FuncId := 119
theorem Fd.varint_Get : Pg.funcs[(119 : Nat)]? = some Tryz.f119 := Tryz.func119
noncomputable abbrev Fb.varint_Get : Func := Tryz.f119
abbrev Fn.object_reader_bytes : FuncId := 120
theorem Fd.object_reader_bytes : Pg.funcs[(120 : Nat)]? = some Tryz.f120 := Tryz.func120
noncomputable abbrev Fb.object_reader_bytes : Func := Tryz.f120
abbrev Fn.object_reader_kind : FuncId := 121
theorem Fd.object_reader_kind : Pg.funcs[(121 : Nat)]? = some Tryz.f121 := Tryz.func121
noncomputable abbrev Fb.object_reader_kind : Func := Tryz.f121
abbrev Fn.object_reader_text : FuncId := 122
theorem Fd.object_reader_text : Pg.funcs[(122 : Nat)]? = some Tryz.f122 := Tryz.func122
noncomputable abbrev Fb.object_reader_text : Func := Tryz.f122
abbrev Fn.object_reader_id : FuncId := 123
theorem Fd.object_reader_id : Pg.funcs[(123 : Nat)]? = some Tryz.f123 := Tryz.func123
noncomputable abbrev Fb.object_reader_id : Func := Tryz.f123
abbrev Fn.object_reader_number : FuncId := 124
theorem Fd.object_reader_number : Pg.funcs[(124 : Nat)]? = some Tryz.f124 := Tryz.func124
noncomputable abbrev Fb.object_reader_number : Func := Tryz.f124
abbrev Fn.object_alone : FuncId := 125
theorem Fd.object_alone : Pg.funcs[(125 : Nat)]? = some Tryz.f125 := Tryz.func125
noncomputable abbrev Fb.object_alone : Func := Tryz.f125
abbrev Fn.object_entries : FuncId := 126
theorem Fd.object_entries : Pg.funcs[(126 : Nat)]? = some Tryz.f126 := Tryz.func126
noncomputable abbrev Fb.object_entries : Func := Tryz.f126
abbrev Fn.object_kind : FuncId := 127
theorem Fd.object_kind : Pg.funcs[(127 : Nat)]? = some Tryz.f127 := Tryz.func127
noncomputable abbrev Fb.object_kind : Func := Tryz.f127
abbrev Fn.object_Name : FuncId := 128
theorem Fd.object_Name : Pg.funcs[(128 : Nat)]? = some Tryz.f128 := Tryz.func128
noncomputable abbrev Fb.object_Name : Func := Tryz.f128
abbrev Fn.strings_Join : FuncId := 129
theorem Fd.strings_Join : Pg.funcs[(129 : Nat)]? = some Tryz.f129 := Tryz.func129
noncomputable abbrev Fb.strings_Join : Func := Tryz.f129
abbrev Fn.strings_Repeat : FuncId := 130
theorem Fd.strings_Repeat : Pg.funcs[(130 : Nat)]? = some Tryz.f130 := Tryz.func130
noncomputable abbrev Fb.strings_Repeat : Func := Tryz.f130
abbrev Fn.sha256_block : FuncId := 131
theorem Fd.sha256_block : Pg.funcs[(131 : Nat)]? = some Tryz.f131 := Tryz.func131
noncomputable abbrev Fb.sha256_block : Func := Tryz.f131
abbrev Fn.cmp_Compare_byte : FuncId := 132
theorem Fd.cmp_Compare_byte : Pg.funcs[(132 : Nat)]? = some Tryz.f132 := Tryz.func132
noncomputable abbrev Fb.cmp_Compare_byte : Func := Tryz.f132
abbrev Fn.slices_rotateLeft_store_item : FuncId := 133
theorem Fd.slices_rotateLeft_store_item : Pg.funcs[(133 : Nat)]? = some Tryz.f133 := Tryz.func133
noncomputable abbrev Fb.slices_rotateLeft_store_item : Func := Tryz.f133
abbrev Fn.slices_rotateLeft_api_Id : FuncId := 134
theorem Fd.slices_rotateLeft_api_Id : Pg.funcs[(134 : Nat)]? = some Tryz.f134 := Tryz.func134
noncomputable abbrev Fb.slices_rotateLeft_api_Id : Func := Tryz.f134
abbrev Fn.strings_IndexByte : FuncId := 135
theorem Fd.strings_IndexByte : Pg.funcs[(135 : Nat)]? = some Tryz.f135 := Tryz.func135
noncomputable abbrev Fb.strings_IndexByte : Func := Tryz.f135
abbrev Fn.strings_Builder_Grow : FuncId := 136
theorem Fd.strings_Builder_Grow : Pg.funcs[(136 : Nat)]? = some Tryz.f136 := Tryz.func136
noncomputable abbrev Fb.strings_Builder_Grow : Func := Tryz.f136
abbrev Fn.strings_Builder_WriteString : FuncId := 137
theorem Fd.strings_Builder_WriteString : Pg.funcs[(137 : Nat)]? = some Tryz.f137 := Tryz.func137
noncomputable abbrev Fb.strings_Builder_WriteString : Func := Tryz.f137
abbrev Fn.strings_Builder_String : FuncId := 138
theorem Fd.strings_Builder_String : Pg.funcs[(138 : Nat)]? = some Tryz.f138 := Tryz.func138
noncomputable abbrev Fb.strings_Builder_String : Func := Tryz.f138
abbrev Fn.math_bits_Mul : FuncId := 139
theorem Fd.math_bits_Mul : Pg.funcs[(139 : Nat)]? = some Tryz.f139 := Tryz.func139
noncomputable abbrev Fb.math_bits_Mul : Func := Tryz.f139
abbrev Fn.strings_HasPrefix : FuncId := 140
theorem Fd.strings_HasPrefix : Pg.funcs[(140 : Nat)]? = some Tryz.f140 := Tryz.func140
noncomputable abbrev Fb.strings_HasPrefix : Func := Tryz.f140
abbrev Fn.strings_Builder_Len : FuncId := 141
theorem Fd.strings_Builder_Len : Pg.funcs[(141 : Nat)]? = some Tryz.f141 := Tryz.func141
noncomputable abbrev Fb.strings_Builder_Len : Func := Tryz.f141
abbrev Fn.math_bits_RotateLeft32 : FuncId := 142
theorem Fd.math_bits_RotateLeft32 : Pg.funcs[(142 : Nat)]? = some Tryz.f142 := Tryz.func142
noncomputable abbrev Fb.math_bits_RotateLeft32 : Func := Tryz.f142
abbrev Fn.sha256_words : FuncId := 143
theorem Fd.sha256_words : Pg.funcs[(143 : Nat)]? = some Tryz.f143 := Tryz.func143
noncomputable abbrev Fb.sha256_words : Func := Tryz.f143
abbrev Fn.cmp_isNaN_byte : FuncId := 144
theorem Fd.cmp_isNaN_byte : Pg.funcs[(144 : Nat)]? = some Tryz.f144 := Tryz.func144
noncomputable abbrev Fb.cmp_isNaN_byte : Func := Tryz.f144
abbrev Fn.slices_Reverse_store_item : FuncId := 145
theorem Fd.slices_Reverse_store_item : Pg.funcs[(145 : Nat)]? = some Tryz.f145 := Tryz.func145
noncomputable abbrev Fb.slices_Reverse_store_item : Func := Tryz.f145
abbrev Fn.slices_Reverse_api_Id : FuncId := 146
theorem Fd.slices_Reverse_api_Id : Pg.funcs[(146 : Nat)]? = some Tryz.f146 := Tryz.func146
noncomputable abbrev Fb.slices_Reverse_api_Id : Func := Tryz.f146
abbrev Fn.internal_stringslite_IndexByte : FuncId := 147
theorem Fd.internal_stringslite_IndexByte : Pg.funcs[(147 : Nat)]? = some Tryz.f147 := Tryz.func147
noncomputable abbrev Fb.internal_stringslite_IndexByte : Func := Tryz.f147
abbrev Fn.strings_Builder_copyCheck : FuncId := 148
theorem Fd.strings_Builder_copyCheck : Pg.funcs[(148 : Nat)]? = some Tryz.f148 := Tryz.func148
noncomputable abbrev Fb.strings_Builder_copyCheck : Func := Tryz.f148
abbrev Fn.strings_Builder_grow : FuncId := 149
theorem Fd.strings_Builder_grow : Pg.funcs[(149 : Nat)]? = some Tryz.f149 := Tryz.func149
noncomputable abbrev Fb.strings_Builder_grow : Func := Tryz.f149
abbrev Fn.math_bits_Mul32 : FuncId := 150
theorem Fd.math_bits_Mul32 : Pg.funcs[(150 : Nat)]? = some Tryz.f150 := Tryz.func150
noncomputable abbrev Fb.math_bits_Mul32 : Func := Tryz.f150
abbrev Fn.math_bits_Mul64 : FuncId := 151
theorem Fd.math_bits_Mul64 : Pg.funcs[(151 : Nat)]? = some Tryz.f151 := Tryz.func151
noncomputable abbrev Fb.math_bits_Mul64 : Func := Tryz.f151
abbrev Fn.internal_stringslite_HasPrefix : FuncId := 152
theorem Fd.internal_stringslite_HasPrefix : Pg.funcs[(152 : Nat)]? = some Tryz.f152 := Tryz.func152
noncomputable abbrev Fb.internal_stringslite_HasPrefix : Func := Tryz.f152
abbrev Fn.internal_bytealg_IndexByteString : FuncId := 153
theorem Fd.internal_bytealg_IndexByteString : Pg.funcs[(153 : Nat)]? = some Tryz.f153 := Tryz.func153
noncomputable abbrev Fb.internal_bytealg_IndexByteString : Func := Tryz.f153
abbrev Fn.internal_abi_NoEscape : FuncId := 154
theorem Fd.internal_abi_NoEscape : Pg.funcs[(154 : Nat)]? = some Tryz.f154 := Tryz.func154
noncomputable abbrev Fb.internal_abi_NoEscape : Func := Tryz.f154
abbrev Fn.internal_bytealg_MakeNoZero : FuncId := 155
theorem Fd.internal_bytealg_MakeNoZero : Pg.funcs[(155 : Nat)]? = some Tryz.f155 := Tryz.func155
noncomputable abbrev Fb.internal_bytealg_MakeNoZero : Func := Tryz.f155
abbrev Fn.runtime_boundsError_Error : FuncId := 156
theorem Fd.runtime_boundsError_Error : Pg.funcs[(156 : Nat)]? = some Tryz.f156 := Tryz.func156
noncomputable abbrev Fb.runtime_boundsError_Error : Func := Tryz.f156
abbrev Fn.runtime_boundsError_RuntimeError : FuncId := 157
theorem Fd.runtime_boundsError_RuntimeError : Pg.funcs[(157 : Nat)]? = some Tryz.f157 := Tryz.func157
noncomputable abbrev Fb.runtime_boundsError_RuntimeError : Func := Tryz.f157
abbrev Fn.runtime_errorString_Error : FuncId := 158
theorem Fd.runtime_errorString_Error : Pg.funcs[(158 : Nat)]? = some Tryz.f158 := Tryz.func158
noncomputable abbrev Fb.runtime_errorString_Error : Func := Tryz.f158
abbrev Fn.runtime_errorString_RuntimeError : FuncId := 159
theorem Fd.runtime_errorString_RuntimeError : Pg.funcs[(159 : Nat)]? = some Tryz.f159 := Tryz.func159
noncomputable abbrev Fb.runtime_errorString_RuntimeError : Func := Tryz.f159
abbrev Fn.runtime_plainError_Error : FuncId := 160
theorem Fd.runtime_plainError_Error : Pg.funcs[(160 : Nat)]? = some Tryz.f160 := Tryz.func160
noncomputable abbrev Fb.runtime_plainError_Error : Func := Tryz.f160
abbrev Fn.runtime_plainError_RuntimeError : FuncId := 161
theorem Fd.runtime_plainError_RuntimeError : Pg.funcs[(161 : Nat)]? = some Tryz.f161 := Tryz.func161
noncomputable abbrev Fb.runtime_plainError_RuntimeError : Func := Tryz.f161
abbrev Fn.runtime_errorAddressString_Error : FuncId := 162
theorem Fd.runtime_errorAddressString_Error : Pg.funcs[(162 : Nat)]? = some Tryz.f162 := Tryz.func162
noncomputable abbrev Fb.runtime_errorAddressString_Error : Func := Tryz.f162
abbrev Fn.runtime_errorAddressString_RuntimeError : FuncId := 163
theorem Fd.runtime_errorAddressString_RuntimeError : Pg.funcs[(163 : Nat)]? = some Tryz.f163 := Tryz.func163
noncomputable abbrev Fb.runtime_errorAddressString_RuntimeError : Func := Tryz.f163
abbrev Fn.runtime_TypeAssertionError_Error : FuncId := 164
theorem Fd.runtime_TypeAssertionError_Error : Pg.funcs[(164 : Nat)]? = some Tryz.f164 := Tryz.func164
noncomputable abbrev Fb.runtime_TypeAssertionError_Error : Func := Tryz.f164
abbrev Fn.runtime_TypeAssertionError_RuntimeError : FuncId := 165
theorem Fd.runtime_TypeAssertionError_RuntimeError : Pg.funcs[(165 : Nat)]? = some Tryz.f165 := Tryz.func165
noncomputable abbrev Fb.runtime_TypeAssertionError_RuntimeError : Func := Tryz.f165
abbrev Fn.runtime_PanicNilError_Error : FuncId := 166
theorem Fd.runtime_PanicNilError_Error : Pg.funcs[(166 : Nat)]? = some Tryz.f166 := Tryz.func166
noncomputable abbrev Fb.runtime_PanicNilError_Error : Func := Tryz.f166
abbrev Fn.runtime_PanicNilError_RuntimeError : FuncId := 167
theorem Fd.runtime_PanicNilError_RuntimeError : Pg.funcs[(167 : Nat)]? = some Tryz.f167 := Tryz.func167
noncomputable abbrev Fb.runtime_PanicNilError_RuntimeError : Func := Tryz.f167
abbrev Fn.internal_abi_Type_Align : FuncId := 168
theorem Fd.internal_abi_Type_Align : Pg.funcs[(168 : Nat)]? = some Tryz.f168 := Tryz.func168
noncomputable abbrev Fb.internal_abi_Type_Align : Func := Tryz.f168
abbrev Fn.internal_abi_Type_Len : FuncId := 169
theorem Fd.internal_abi_Type_Len : Pg.funcs[(169 : Nat)]? = some Tryz.f169 := Tryz.func169
noncomputable abbrev Fb.internal_abi_Type_Len : Func := Tryz.f169
abbrev Fn.internal_runtime_maps_unhashableTypeError_Error : FuncId := 170
theorem Fd.internal_runtime_maps_unhashableTypeError_Error : Pg.funcs[(170 : Nat)]? = some Tryz.f170 := Tryz.func170
noncomputable abbrev Fb.internal_runtime_maps_unhashableTypeError_Error : Func := Tryz.f170
abbrev Fn.internal_runtime_maps_unhashableTypeError_RuntimeError : FuncId := 171
theorem Fd.internal_runtime_maps_unhashableTypeError_RuntimeError : Pg.funcs[(171 : Nat)]? = some Tryz.f171 := Tryz.func171
noncomputable abbrev Fb.internal_runtime_maps_unhashableTypeError_RuntimeError : Func := Tryz.f171
abbrev Fn.graph_queue_Less : FuncId := 172
theorem Fd.graph_queue_Less : Pg.funcs[(172 : Nat)]? = some Tryz.f172 := Tryz.func172
noncomputable abbrev Fb.graph_queue_Less : Func := Tryz.f172
abbrev Fn.graph_queue_Swap : FuncId := 173
theorem Fd.graph_queue_Swap : Pg.funcs[(173 : Nat)]? = some Tryz.f173 := Tryz.func173
noncomputable abbrev Fb.graph_queue_Swap : Func := Tryz.f173
abbrev Fn.graph_queue_Pop : FuncId := 174
theorem Fd.graph_queue_Pop : Pg.funcs[(174 : Nat)]? = some Tryz.f174 := Tryz.func174
noncomputable abbrev Fb.graph_queue_Pop : Func := Tryz.f174
abbrev Fn.graph_queue_Push : FuncId := 175
theorem Fd.graph_queue_Push : Pg.funcs[(175 : Nat)]? = some Tryz.f175 := Tryz.func175
noncomputable abbrev Fb.graph_queue_Push : Func := Tryz.f175
abbrev Fn.strings_Builder_Reset : FuncId := 176
theorem Fd.strings_Builder_Reset : Pg.funcs[(176 : Nat)]? = some Tryz.f176 := Tryz.func176
noncomputable abbrev Fb.strings_Builder_Reset : Func := Tryz.f176
abbrev Fn.internal_abi_Kind_String : FuncId := 177
theorem Fd.internal_abi_Kind_String : Pg.funcs[(177 : Nat)]? = some Tryz.f177 := Tryz.func177
noncomputable abbrev Fb.internal_abi_Kind_String : Func := Tryz.f177
abbrev Fn.var_s_door_gosem_cut_vars_holds_initialisers_alone_see_the_manifest_s_row_cutvarsword_look_11_test_files_too : FuncId := 178
theorem Fd.var_s_door_gosem_cut_vars_holds_initialisers_alone_see_the_manifest_s_row_cutvarsword_look_11_test_files_too : Pg.funcs[(178 : Nat)]? = some Tryz.f178 := Tryz.func178
noncomputable abbrev Fb.var_s_door_gosem_cut_vars_holds_initialisers_alone_see_the_manifest_s_row_cutvarsword_look_11_test_files_too : Func := Tryz.f178
abbrev Fn.var_s_door_sha256_constants_is_laid_by_its_own_initialiser_plain_data_look_11 : FuncId := 179
theorem Fd.var_s_door_sha256_constants_is_laid_by_its_own_initialiser_plain_data_look_11 : Pg.funcs[(179 : Nat)]? = some Tryz.f179 := Tryz.func179
noncomputable abbrev Fb.var_s_door_sha256_constants_is_laid_by_its_own_initialiser_plain_data_look_11 : Func := Tryz.f179
abbrev Fn.var_s_door_the_look_of_gosem_cut_vars_went_over_the_folder_that_the_caller_named_as_the_repository_s_root_look_11 : FuncId := 180
theorem Fd.var_s_door_the_look_of_gosem_cut_vars_went_over_the_folder_that_the_caller_named_as_the_repository_s_root_look_11 : Pg.funcs[(180 : Nat)]? = some Tryz.f180 := Tryz.func180
noncomputable abbrev Fb.var_s_door_the_look_of_gosem_cut_vars_went_over_the_folder_that_the_caller_named_as_the_repository_s_root_look_11 : Func := Tryz.f180
abbrev Fn.gosem_cut_vars : FuncId := 181
theorem Fd.gosem_cut_vars : Pg.funcs[(181 : Nat)]? = some Tryz.f181 := Tryz.func181
noncomputable abbrev Fb.gosem_cut_vars : Func := Tryz.f181
abbrev Tn.int64 : Nat := 2
abbrev Tn.int : Nat := 3
abbrev Tn.bool : Nat := 4
abbrev Tn.uint8 : Nat := 5
abbrev Tn.abi_BoundsErrorCode : Nat := 6
abbrev Tn.runtime_boundsError : Nat := 8
abbrev Tn.string : Nat := 9
abbrev Tn.runtime_errorString : Nat := 10
abbrev Tn.runtime_plainError : Nat := 11
abbrev Tn.uintptr : Nat := 12
abbrev Tn.runtime_errorAddressString : Nat := 14
abbrev Tn.p_runtime_TypeAssertionError : Nat := 15
abbrev Tn.p_runtime_PanicNilError : Nat := 16
abbrev Tn.p_abi_Type : Nat := 17
abbrev Tn.maps_unhashableTypeError : Nat := 19
abbrev Tn.int32 : Nat := 21
abbrev Tn.sl_ref11_Seed : Nat := 22
abbrev Tn.sl_uint8 : Nat := 23
abbrev Tn.law12_History : Nat := 25
abbrev Tn.sl_api_Ref : Nat := 26
abbrev Tn.sl_api_Id : Nat := 27
abbrev Tn.sl_ref11_Item : Nat := 28
abbrev Tn.ref11_Store : Nat := 30
abbrev Tn.arr32_uint8 : Nat := 34
abbrev Tn.api_Id : Nat := 35
abbrev Tn.api_Ref : Nat := 37
abbrev Tn.ref14_Repo : Nat := 41
abbrev Tn.p_store_Store : Nat := 42
abbrev Tn.store_Repo : Nat := 44
abbrev Tn.api_Errno : Nat := 48
abbrev Tn.sl_string : Nat := 59
abbrev Tn.sl_api_Entry : Nat := 74
abbrev Tn.uint32 : Nat := 75
abbrev Tn.api_Object : Nat := 77
abbrev Tn.ref11_Item : Nat := 84
abbrev Tn.graph_set : Nat := 100
abbrev Tn.sl_api_Link : Nat := 104
abbrev Tn.api_Link : Nat := 107
abbrev Tn.p_graph_walker : Nat := 108
abbrev Tn.sl_graph_node : Nat := 109
abbrev Tn.graph_queue : Nat := 110
abbrev Tn.graph_walker : Nat := 112
abbrev Tn.graph_node : Nat := 115
abbrev Tn.uint16 : Nat := 118
abbrev Tn.ref11_Seed : Nat := 120
abbrev Tn.sl_store_item : Nat := 122
abbrev Tn.store_Store : Nat := 124
abbrev Tn.store_item : Nat := 129
abbrev Tn.uint64 : Nat := 136
abbrev Tn.uint : Nat := 137
abbrev Tn.arr8_uint32 : Nat := 138
abbrev Tn.arr64_uint32 : Nat := 139
abbrev Tn.p_graph_set : Nat := 147
abbrev Tn.p_graph_queue : Nat := 152
abbrev Tn.api_Entry : Nat := 156
abbrev Tn.p_object_reader : Nat := 164
abbrev Tn.object_reader : Nat := 166
abbrev Tn.p_api_Object : Nat := 169
abbrev Tn.heap_Interface : Nat := 178
abbrev Tn.p_strings_Builder : Nat := 201
abbrev Tn.strings_Builder : Nat := 203
abbrev Tn.error : Nat := 206
abbrev Tn.sl_uint32 : Nat := 214
abbrev Tn.p_uint8 : Nat := 218
abbrev Tn.unsafe_Pointer : Nat := 223
abbrev Tn.runtime_TypeAssertionError : Nat := 227
abbrev Tn.arr0_p_runtime_PanicNilError : Nat := 228
abbrev Tn.runtime_PanicNilError : Nat := 230
abbrev Tn.abi_TFlag : Nat := 231
abbrev Tn.abi_Kind : Nat := 232
abbrev Tn.abi_NameOff : Nat := 234
abbrev Tn.abi_TypeOff : Nat := 235
abbrev Tn.abi_Type : Nat := 237
abbrev Gv.sha256_constants : Nat := 0
abbrev Gv.internal_bytealg_MaxLen : Nat := 1
end Go.Kn
