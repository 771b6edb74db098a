/- The link between the abstract program and this seat's translation: every function's text is the translation's, checked by the kernel. Conditions: none. -/
import Derived.Test.YtfgecfbknpifjaaK3
import Derived.Test.YtfgecfbknpifjaaPBm
import Derived.Test.YtfgecfbknpifjaaPRz
import Derived.Test.YtfgecfbknpifjaaPRu
import Derived.Test.YtfgecfbknpifjaaPCo
import Derived.Test.YtfgecfbknpifjaaPRfc
import Derived.Test.YtfgecfbknpifjaaPL10w
import Derived.Test.YtfgecfbknpifjaaPL2h
import Derived.Test.YtfgecfbknpifjaaPKit2
import Derived.Test.YtfgecfbknpifjaaPKitW
import Derived.Test.YtfgecfbknpifjaaPL10Of
import Derived.Test.YtfgecfbknpifjaaShComps
import Derived.Test.YtfgecfbknpifjaaRows
import Derived.KernelRfl
set_option linter.all false
namespace Go.Proofs.Ytfgecfbknpifjaa
open Go.Ab
def lk : Lk where
  φ := fun g => match g with
    | 39 => 53
    | 40 => 60
    | 41 => 44
    | 42 => 38
    | 43 => 45
    | 44 => 28
    | 45 => 30
    | 47 => 80
    | 48 => 61
    | 49 => 62
    | 53 => 54
    | 54 => 56
    | 55 => 55
    | 56 => 39
    | 57 => 75
    | 58 => 76
    | 59 => 77
    | 60 => 78
    | 61 => 79
    | 62 => 57
    | 63 => 58
    | 64 => 40
    | 67 => 46
    | 68 => 47
    | 69 => 29
    | 74 => 16
    | 75 => 43
    | 76 => 21
    | 77 => 26
    | 78 => 24
    | 79 => 27
    | 80 => 59
    | 81 => 23
    | 82 => 32
    | 83 => 42
    | 84 => 20
    | 95 => 10
    | 96 => 12
    | 98 => 22
    | 112 => 74
    | 113 => 63
    | 114 => 48
    | 115 => 34
    | 117 => 49
    | 178 => 15
    | 179 => 14
    | 180 => 13
    | 181 => 11
    | 182 => 9
    | 183 => 3
    | 184 => 18
    | 185 => 37
    | 186 => 36
    | 187 => 35
    | 188 => 50
    | 189 => 33
    | 190 => 19
    | 191 => 17
    | 193 => 41
    | _ => 0
  τ := fun _ => 0
  dom := fun g => match g with
    | 39 => true
    | 40 => true
    | 41 => true
    | 42 => true
    | 43 => true
    | 44 => true
    | 45 => true
    | 47 => true
    | 48 => true
    | 49 => true
    | 53 => true
    | 54 => true
    | 55 => true
    | 56 => true
    | 57 => true
    | 58 => true
    | 59 => true
    | 60 => true
    | 61 => true
    | 62 => true
    | 63 => true
    | 64 => true
    | 67 => true
    | 68 => true
    | 69 => true
    | 74 => true
    | 75 => true
    | 76 => true
    | 77 => true
    | 78 => true
    | 79 => true
    | 80 => true
    | 81 => true
    | 82 => true
    | 83 => true
    | 84 => true
    | 95 => true
    | 96 => true
    | 98 => true
    | 112 => true
    | 113 => true
    | 114 => true
    | 115 => true
    | 117 => true
    | 178 => true
    | 179 => true
    | 180 => true
    | 181 => true
    | 182 => true
    | 183 => true
    | 184 => true
    | 185 => true
    | 186 => true
    | 187 => true
    | 188 => true
    | 189 => true
    | 190 => true
    | 191 => true
    | 193 => true
    | _ => false
def prog : Prog := fun g => match g with
    | 39 => some bitmap_sized
    | 40 => some bitmap_last
    | 41 => some bitmap_Check
    | 42 => some bitmap_New
    | 43 => some slices_Clone_uint64_uint64
    | 44 => some bitmap_From
    | 45 => some bitmap_Map_Plain
    | 47 => some bitmap_Map_inside
    | 48 => some bitmap_Map_Get
    | 49 => some bitmap_Map_put
    | 53 => some bitmap_cut
    | 54 => some bitmap_both
    | 55 => some bitmap_mask
    | 56 => some bitmap_Map_Fill
    | 57 => some bitmap_operations_1
    | 58 => some bitmap_operations_2
    | 59 => some bitmap_operations_3
    | 60 => some bitmap_operations_4
    | 61 => some bitmap_operations_5
    | 62 => some bitmap_operations
    | 63 => some bitmap_word
    | 64 => some bitmap_Map_Blit
    | 67 => some bitmap_Map_turned
    | 68 => some bitmap_Map_Mirror_1
    | 69 => some bitmap_Map_Mirror
    | 74 => some burinref0_Size
    | 75 => some burinref0_words
    | 76 => some burinref0_May
    | 77 => some burinref0_White
    | 78 => some burinref0_Get
    | 79 => some burinref0_Put
    | 80 => some burinref0_Do
    | 81 => some burinref0_Count
    | 82 => some burinref0_CopyBitmap
    | 83 => some burinref0_EqWords
    | 84 => some burinref0_EqBitmap
    | 95 => some burinkit_LendBitmap
    | 96 => some burinkit_BackBitmap
    | 98 => some burinkit_Small
    | 112 => some math_bits_Len64
    | 113 => some math_bits_LeadingZeros64
    | 114 => some runs_ends
    | 115 => some runs_Of
    | 117 => some runs_Touch
    | 178 => some burinlaw10_wakes
    | 179 => some burinkit_OverBitmaps
    | 180 => some burinref0_EqPieces
    | 181 => some comps_Of
    | 182 => some burinref10_Of
    | 183 => some burinlaw10_CompsOf
    | 184 => some comps_Back
    | 185 => some slices_Sort_int_int
    | 186 => some comps_forest_root
    | 187 => some comps_touching
    | 188 => some comps_forest_join
    | 189 => some burinref10_piece
    | 190 => some burinref10_Back
    | 191 => some burinref0_CopyPieces
    | 193 => some burinref0_Lay
    | 29 => some burinkit_Within
    | 46 => some bitmap_Map_Size
    | 50 => some bitmap_Map_Set
    | 51 => some math_bits_OnesCount64
    | 52 => some bitmap_Map_Count
    | 65 => some bitmap_Map_Crop
    | 66 => some bitmap_Map_Invert
    | 70 => some bitmap_Map_Turn_1
    | 71 => some bitmap_Map_Turn
    | 72 => some slices_Equal_uint64_uint64
    | 73 => some bitmap_Equal
    | 97 => some burinkit_OverWords
    | 99 => some burinlaw2_wakes
    | 101 => some burinlaw2_same
    | 116 => some runs_Back
    | _ => none
theorem ck39 : ckFun lk Try.prog bitmap_sized Try.f53 = true := by kernel_rfl
theorem ck40 : ckFun lk Try.prog bitmap_last Try.f60 = true := by kernel_rfl
theorem ck41 : ckFun lk Try.prog bitmap_Check Try.f44 = true := by kernel_rfl
theorem ck42 : ckFun lk Try.prog bitmap_New Try.f38 = true := by kernel_rfl
theorem ck43 : ckFun lk Try.prog slices_Clone_uint64_uint64 Try.f45 = true := by kernel_rfl
theorem ck44 : ckFun lk Try.prog bitmap_From Try.f28 = true := by kernel_rfl
theorem ck45 : ckFun lk Try.prog bitmap_Map_Plain Try.f30 = true := by kernel_rfl
theorem ck47 : ckFun lk Try.prog bitmap_Map_inside Try.f80 = true := by kernel_rfl
theorem ck48 : ckFun lk Try.prog bitmap_Map_Get Try.f61 = true := by kernel_rfl
theorem ck49 : ckFun lk Try.prog bitmap_Map_put Try.f62 = true := by kernel_rfl
theorem ck53 : ckFun lk Try.prog bitmap_cut Try.f54 = true := by kernel_rfl
theorem ck54 : ckFun lk Try.prog bitmap_both Try.f56 = true := by kernel_rfl
theorem ck55 : ckFun lk Try.prog bitmap_mask Try.f55 = true := by kernel_rfl
theorem ck56 : ckFun lk Try.prog bitmap_Map_Fill Try.f39 = true := by kernel_rfl
theorem ck57 : ckFun lk Try.prog bitmap_operations_1 Try.f75 = true := by kernel_rfl
theorem ck58 : ckFun lk Try.prog bitmap_operations_2 Try.f76 = true := by kernel_rfl
theorem ck59 : ckFun lk Try.prog bitmap_operations_3 Try.f77 = true := by kernel_rfl
theorem ck60 : ckFun lk Try.prog bitmap_operations_4 Try.f78 = true := by kernel_rfl
theorem ck61 : ckFun lk Try.prog bitmap_operations_5 Try.f79 = true := by kernel_rfl
theorem ck62 : ckFun lk Try.prog bitmap_operations Try.f57 = true := by kernel_rfl
theorem ck63 : ckFun lk Try.prog bitmap_word Try.f58 = true := by kernel_rfl
theorem ck64 : ckFun lk Try.prog bitmap_Map_Blit Try.f40 = true := by kernel_rfl
theorem ck67 : ckFun lk Try.prog bitmap_Map_turned Try.f46 = true := by kernel_rfl
theorem ck68 : ckFun lk Try.prog bitmap_Map_Mirror_1 Try.f47 = true := by kernel_rfl
theorem ck69 : ckFun lk Try.prog bitmap_Map_Mirror Try.f29 = true := by kernel_rfl
theorem ck74 : ckFun lk Try.prog burinref0_Size Try.f16 = true := by kernel_rfl
theorem ck75 : ckFun lk Try.prog burinref0_words Try.f43 = true := by kernel_rfl
theorem ck76 : ckFun lk Try.prog burinref0_May Try.f21 = true := by kernel_rfl
theorem ck77 : ckFun lk Try.prog burinref0_White Try.f26 = true := by kernel_rfl
theorem ck78 : ckFun lk Try.prog burinref0_Get Try.f24 = true := by kernel_rfl
theorem ck79 : ckFun lk Try.prog burinref0_Put Try.f27 = true := by kernel_rfl
theorem ck80 : ckFun lk Try.prog burinref0_Do Try.f59 = true := by kernel_rfl
theorem ck81 : ckFun lk Try.prog burinref0_Count Try.f23 = true := by kernel_rfl
theorem ck82 : ckFun lk Try.prog burinref0_CopyBitmap Try.f32 = true := by kernel_rfl
theorem ck83 : ckFun lk Try.prog burinref0_EqWords Try.f42 = true := by kernel_rfl
theorem ck84 : ckFun lk Try.prog burinref0_EqBitmap Try.f20 = true := by kernel_rfl
theorem ck95 : ckFun lk Try.prog burinkit_LendBitmap Try.f10 = true := by kernel_rfl
theorem ck96 : ckFun lk Try.prog burinkit_BackBitmap Try.f12 = true := by kernel_rfl
theorem ck98 : ckFun lk Try.prog burinkit_Small Try.f22 = true := by kernel_rfl
theorem ck112 : ckFun lk Try.prog math_bits_Len64 Try.f74 = true := by kernel_rfl
theorem ck113 : ckFun lk Try.prog math_bits_LeadingZeros64 Try.f63 = true := by kernel_rfl
theorem ck114 : ckFun lk Try.prog runs_ends Try.f48 = true := by kernel_rfl
theorem ck115 : ckFun lk Try.prog runs_Of Try.f34 = true := by kernel_rfl
theorem ck117 : ckFun lk Try.prog runs_Touch Try.f49 = true := by kernel_rfl
theorem ck178 : ckFun lk Try.prog burinlaw10_wakes Try.f15 = true := by kernel_rfl
theorem ck179 : ckFun lk Try.prog burinkit_OverBitmaps Try.f14 = true := by kernel_rfl
theorem ck180 : ckFun lk Try.prog burinref0_EqPieces Try.f13 = true := by kernel_rfl
theorem ck181 : ckFun lk Try.prog comps_Of Try.f11 = true := by kernel_rfl
theorem ck182 : ckFun lk Try.prog burinref10_Of Try.f9 = true := by kernel_rfl
theorem ck183 : ckFun lk Try.prog burinlaw10_CompsOf Try.f3 = true := by kernel_rfl
theorem ck184 : ckFun lk Try.prog comps_Back Try.f18 = true := by kernel_rfl
theorem ck185 : ckOrc slices_Sort_int_int Try.f37 = true ∧ SortsInt Try.prog 37 := ⟨by kernel_rfl, ⟨fun p cap w => Try.slices_Sort_int_none p cap w, fun blk off cap zs w hH hb hz => Try.slices_Sort_int blk off cap zs w hH hb hz⟩⟩
theorem ck186 : ckFun lk Try.prog comps_forest_root Try.f36 = true := by kernel_rfl
theorem ck187 : ckFun lk Try.prog comps_touching Try.f35 = true := by kernel_rfl
theorem ck188 : ckFun lk Try.prog comps_forest_join Try.f50 = true := by kernel_rfl
theorem ck189 : ckFun lk Try.prog burinref10_piece Try.f33 = true := by kernel_rfl
theorem ck190 : ckFun lk Try.prog burinref10_Back Try.f19 = true := by kernel_rfl
theorem ck191 : ckFun lk Try.prog burinref0_CopyPieces Try.f17 = true := by kernel_rfl
theorem ck193 : ckFun lk Try.prog burinref0_Lay Try.f41 = true := by kernel_rfl
theorem linked : Linked lk Try.prog prog where
  mixed := by kernel_rfl
  fn := fun g hg => by
    unfold lk at hg
    dsimp only at hg
    split at hg
    · exact ⟨_, _, rfl, Try.func53, .inl ck39⟩
    · exact ⟨_, _, rfl, Try.func60, .inl ck40⟩
    · exact ⟨_, _, rfl, Try.func44, .inl ck41⟩
    · exact ⟨_, _, rfl, Try.func38, .inl ck42⟩
    · exact ⟨_, _, rfl, Try.func45, .inl ck43⟩
    · exact ⟨_, _, rfl, Try.func28, .inl ck44⟩
    · exact ⟨_, _, rfl, Try.func30, .inl ck45⟩
    · exact ⟨_, _, rfl, Try.func80, .inl ck47⟩
    · exact ⟨_, _, rfl, Try.func61, .inl ck48⟩
    · exact ⟨_, _, rfl, Try.func62, .inl ck49⟩
    · exact ⟨_, _, rfl, Try.func54, .inl ck53⟩
    · exact ⟨_, _, rfl, Try.func56, .inl ck54⟩
    · exact ⟨_, _, rfl, Try.func55, .inl ck55⟩
    · exact ⟨_, _, rfl, Try.func39, .inl ck56⟩
    · exact ⟨_, _, rfl, Try.func75, .inl ck57⟩
    · exact ⟨_, _, rfl, Try.func76, .inl ck58⟩
    · exact ⟨_, _, rfl, Try.func77, .inl ck59⟩
    · exact ⟨_, _, rfl, Try.func78, .inl ck60⟩
    · exact ⟨_, _, rfl, Try.func79, .inl ck61⟩
    · exact ⟨_, _, rfl, Try.func57, .inl ck62⟩
    · exact ⟨_, _, rfl, Try.func58, .inl ck63⟩
    · exact ⟨_, _, rfl, Try.func40, .inl ck64⟩
    · exact ⟨_, _, rfl, Try.func46, .inl ck67⟩
    · exact ⟨_, _, rfl, Try.func47, .inl ck68⟩
    · exact ⟨_, _, rfl, Try.func29, .inl ck69⟩
    · exact ⟨_, _, rfl, Try.func16, .inl ck74⟩
    · exact ⟨_, _, rfl, Try.func43, .inl ck75⟩
    · exact ⟨_, _, rfl, Try.func21, .inl ck76⟩
    · exact ⟨_, _, rfl, Try.func26, .inl ck77⟩
    · exact ⟨_, _, rfl, Try.func24, .inl ck78⟩
    · exact ⟨_, _, rfl, Try.func27, .inl ck79⟩
    · exact ⟨_, _, rfl, Try.func59, .inl ck80⟩
    · exact ⟨_, _, rfl, Try.func23, .inl ck81⟩
    · exact ⟨_, _, rfl, Try.func32, .inl ck82⟩
    · exact ⟨_, _, rfl, Try.func42, .inl ck83⟩
    · exact ⟨_, _, rfl, Try.func20, .inl ck84⟩
    · exact ⟨_, _, rfl, Try.func10, .inl ck95⟩
    · exact ⟨_, _, rfl, Try.func12, .inl ck96⟩
    · exact ⟨_, _, rfl, Try.func22, .inl ck98⟩
    · exact ⟨_, _, rfl, Try.func74, .inl ck112⟩
    · exact ⟨_, _, rfl, Try.func63, .inl ck113⟩
    · exact ⟨_, _, rfl, Try.func48, .inl ck114⟩
    · exact ⟨_, _, rfl, Try.func34, .inl ck115⟩
    · exact ⟨_, _, rfl, Try.func49, .inl ck117⟩
    · exact ⟨_, _, rfl, Try.func15, .inl ck178⟩
    · exact ⟨_, _, rfl, Try.func14, .inl ck179⟩
    · exact ⟨_, _, rfl, Try.func13, .inl ck180⟩
    · exact ⟨_, _, rfl, Try.func11, .inl ck181⟩
    · exact ⟨_, _, rfl, Try.func9, .inl ck182⟩
    · exact ⟨_, _, rfl, Try.func3, .inl ck183⟩
    · exact ⟨_, _, rfl, Try.func18, .inl ck184⟩
    · exact ⟨_, _, rfl, Try.func37, .inr ck185⟩
    · exact ⟨_, _, rfl, Try.func36, .inl ck186⟩
    · exact ⟨_, _, rfl, Try.func35, .inl ck187⟩
    · exact ⟨_, _, rfl, Try.func50, .inl ck188⟩
    · exact ⟨_, _, rfl, Try.func33, .inl ck189⟩
    · exact ⟨_, _, rfl, Try.func19, .inl ck190⟩
    · exact ⟨_, _, rfl, Try.func17, .inl ck191⟩
    · exact ⟨_, _, rfl, Try.func41, .inl ck193⟩
    · cases hg
end Go.Proofs.Ytfgecfbknpifjaa
