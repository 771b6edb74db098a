/- The link between the abstract program and this seat's translation: every function's text is the translation's, checked by the kernel. Conditions: none. -/
import Derived.Test.YtdkgdneiilnppaaK3
import Derived.Test.YtdkgdneiilnppaaPBm
import Derived.Test.YtdkgdneiilnppaaPRz
import Derived.Test.YtdkgdneiilnppaaPRu
import Derived.Test.YtdkgdneiilnppaaPRf9
import Derived.Test.YtdkgdneiilnppaaPKit2
import Derived.Test.YtdkgdneiilnppaaPRef2
import Derived.Test.YtdkgdneiilnppaaPL9Mirrored
import Derived.Test.YtdkgdneiilnppaaRows
import Derived.KernelRfl
set_option linter.all false
namespace Go.Proofs.Ytdkgdneiilnppaa
open Go.Ab
def lk : Lk where
  φ := fun g => match g with
    | 39 => 65
    | 40 => 77
    | 41 => 61
    | 42 => 36
    | 43 => 69
    | 44 => 41
    | 45 => 46
    | 46 => 74
    | 47 => 67
    | 48 => 38
    | 49 => 68
    | 50 => 39
    | 51 => 66
    | 52 => 37
    | 53 => 81
    | 54 => 70
    | 55 => 72
    | 56 => 54
    | 57 => 87
    | 58 => 88
    | 59 => 89
    | 60 => 90
    | 61 => 91
    | 62 => 71
    | 63 => 73
    | 64 => 43
    | 65 => 47
    | 66 => 51
    | 67 => 78
    | 68 => 79
    | 69 => 52
    | 70 => 80
    | 71 => 53
    | 72 => 76
    | 73 => 48
    | 74 => 23
    | 75 => 64
    | 76 => 27
    | 77 => 49
    | 78 => 29
    | 79 => 50
    | 80 => 45
    | 81 => 30
    | 82 => 31
    | 83 => 63
    | 84 => 26
    | 85 => 56
    | 86 => 82
    | 87 => 57
    | 88 => 83
    | 89 => 84
    | 90 => 58
    | 91 => 85
    | 92 => 33
    | 93 => 59
    | 94 => 32
    | 95 => 18
    | 96 => 20
    | 97 => 75
    | 98 => 28
    | 112 => 92
    | 113 => 86
    | 114 => 62
    | 115 => 19
    | 116 => 24
    | 117 => 34
    | 118 => 17
    | 119 => 25
    | 120 => 35
    | 121 => 21
    | 122 => 22
    | 127 => 6
    | _ => 0
  τ := fun _ => 0
  dom := fun g => match g with
    | 39 => true
    | 40 => true
    | 41 => true
    | 42 => true
    | 43 => true
    | 44 => true
    | 45 => true
    | 46 => true
    | 47 => true
    | 48 => true
    | 49 => true
    | 50 => true
    | 51 => true
    | 52 => true
    | 53 => true
    | 54 => true
    | 55 => true
    | 56 => true
    | 57 => true
    | 58 => true
    | 59 => true
    | 60 => true
    | 61 => true
    | 62 => true
    | 63 => true
    | 64 => true
    | 65 => true
    | 66 => true
    | 67 => true
    | 68 => true
    | 69 => true
    | 70 => true
    | 71 => true
    | 72 => true
    | 73 => true
    | 74 => true
    | 75 => true
    | 76 => true
    | 77 => true
    | 78 => true
    | 79 => true
    | 80 => true
    | 81 => true
    | 82 => true
    | 83 => true
    | 84 => true
    | 85 => true
    | 86 => true
    | 87 => true
    | 88 => true
    | 89 => true
    | 90 => true
    | 91 => true
    | 92 => true
    | 93 => true
    | 94 => true
    | 95 => true
    | 96 => true
    | 97 => true
    | 98 => true
    | 112 => true
    | 113 => true
    | 114 => true
    | 115 => true
    | 116 => true
    | 117 => true
    | 118 => true
    | 119 => true
    | 120 => true
    | 121 => true
    | 122 => true
    | 127 => true
    | _ => false
def prog : Prog := fun g => match g with
    | 39 => some bitmap_sized
    | 40 => some bitmap_last
    | 41 => some bitmap_Check
    | 42 => some bitmap_New
    | 43 => some slices_Clone_uint64_uint64
    | 44 => some bitmap_From
    | 45 => some bitmap_Map_Plain
    | 46 => some bitmap_Map_Size
    | 47 => some bitmap_Map_inside
    | 48 => some bitmap_Map_Get
    | 49 => some bitmap_Map_put
    | 50 => some bitmap_Map_Set
    | 51 => some math_bits_OnesCount64
    | 52 => some bitmap_Map_Count
    | 53 => some bitmap_cut
    | 54 => some bitmap_both
    | 55 => some bitmap_mask
    | 56 => some bitmap_Map_Fill
    | 57 => some bitmap_operations_1
    | 58 => some bitmap_operations_2
    | 59 => some bitmap_operations_3
    | 60 => some bitmap_operations_4
    | 61 => some bitmap_operations_5
    | 62 => some bitmap_operations
    | 63 => some bitmap_word
    | 64 => some bitmap_Map_Blit
    | 65 => some bitmap_Map_Crop
    | 66 => some bitmap_Map_Invert
    | 67 => some bitmap_Map_turned
    | 68 => some bitmap_Map_Mirror_1
    | 69 => some bitmap_Map_Mirror
    | 70 => some bitmap_Map_Turn_1
    | 71 => some bitmap_Map_Turn
    | 72 => some slices_Equal_uint64_uint64
    | 73 => some bitmap_Equal
    | 74 => some burinref0_Size
    | 75 => some burinref0_words
    | 76 => some burinref0_May
    | 77 => some burinref0_White
    | 78 => some burinref0_Get
    | 79 => some burinref0_Put
    | 80 => some burinref0_Do
    | 81 => some burinref0_Count
    | 82 => some burinref0_CopyBitmap
    | 83 => some burinref0_EqWords
    | 84 => some burinref0_EqBitmap
    | 85 => some burinref2_Set
    | 86 => some burinref2_span
    | 87 => some burinref2_Fill
    | 88 => some burinref2_greater
    | 89 => some burinref2_lesser
    | 90 => some burinref2_Blit
    | 91 => some burinref2_Crop
    | 92 => some burinref2_Mirror
    | 93 => some burinref2_Turn
    | 94 => some burinref2_Invert
    | 95 => some burinkit_LendBitmap
    | 96 => some burinkit_BackBitmap
    | 97 => some burinkit_OverWords
    | 98 => some burinkit_Small
    | 112 => some math_bits_Len64
    | 113 => some math_bits_LeadingZeros64
    | 114 => some runs_ends
    | 115 => some runs_Of
    | 116 => some runs_Back
    | 117 => some runs_Touch
    | 118 => some burinref9_Of
    | 119 => some burinref9_Back
    | 120 => some burinref9_Touch
    | 121 => some burinref0_EqRuns
    | 122 => some burinlaw9_wakes
    | 127 => some burinlaw9_RunsMirrored
    | _ => none
theorem ck39 : ckFun lk Try.prog bitmap_sized Try.f65 = true := by kernel_rfl
theorem ck40 : ckFun lk Try.prog bitmap_last Try.f77 = true := by kernel_rfl
theorem ck41 : ckFun lk Try.prog bitmap_Check Try.f61 = true := by kernel_rfl
theorem ck42 : ckFun lk Try.prog bitmap_New Try.f36 = true := by kernel_rfl
theorem ck43 : ckFun lk Try.prog slices_Clone_uint64_uint64 Try.f69 = true := by kernel_rfl
theorem ck44 : ckFun lk Try.prog bitmap_From Try.f41 = true := by kernel_rfl
theorem ck45 : ckFun lk Try.prog bitmap_Map_Plain Try.f46 = true := by kernel_rfl
theorem ck46 : ckFun lk Try.prog bitmap_Map_Size Try.f74 = true := by kernel_rfl
theorem ck47 : ckFun lk Try.prog bitmap_Map_inside Try.f67 = true := by kernel_rfl
theorem ck48 : ckFun lk Try.prog bitmap_Map_Get Try.f38 = true := by kernel_rfl
theorem ck49 : ckFun lk Try.prog bitmap_Map_put Try.f68 = true := by kernel_rfl
theorem ck50 : ckFun lk Try.prog bitmap_Map_Set Try.f39 = true := by kernel_rfl
theorem ck51 : ckFun lk Try.prog math_bits_OnesCount64 Try.f66 = true := by kernel_rfl
theorem ck52 : ckFun lk Try.prog bitmap_Map_Count Try.f37 = true := by kernel_rfl
theorem ck53 : ckFun lk Try.prog bitmap_cut Try.f81 = true := by kernel_rfl
theorem ck54 : ckFun lk Try.prog bitmap_both Try.f70 = true := by kernel_rfl
theorem ck55 : ckFun lk Try.prog bitmap_mask Try.f72 = true := by kernel_rfl
theorem ck56 : ckFun lk Try.prog bitmap_Map_Fill Try.f54 = true := by kernel_rfl
theorem ck57 : ckFun lk Try.prog bitmap_operations_1 Try.f87 = true := by kernel_rfl
theorem ck58 : ckFun lk Try.prog bitmap_operations_2 Try.f88 = true := by kernel_rfl
theorem ck59 : ckFun lk Try.prog bitmap_operations_3 Try.f89 = true := by kernel_rfl
theorem ck60 : ckFun lk Try.prog bitmap_operations_4 Try.f90 = true := by kernel_rfl
theorem ck61 : ckFun lk Try.prog bitmap_operations_5 Try.f91 = true := by kernel_rfl
theorem ck62 : ckFun lk Try.prog bitmap_operations Try.f71 = true := by kernel_rfl
theorem ck63 : ckFun lk Try.prog bitmap_word Try.f73 = true := by kernel_rfl
theorem ck64 : ckFun lk Try.prog bitmap_Map_Blit Try.f43 = true := by kernel_rfl
theorem ck65 : ckFun lk Try.prog bitmap_Map_Crop Try.f47 = true := by kernel_rfl
theorem ck66 : ckFun lk Try.prog bitmap_Map_Invert Try.f51 = true := by kernel_rfl
theorem ck67 : ckFun lk Try.prog bitmap_Map_turned Try.f78 = true := by kernel_rfl
theorem ck68 : ckFun lk Try.prog bitmap_Map_Mirror_1 Try.f79 = true := by kernel_rfl
theorem ck69 : ckFun lk Try.prog bitmap_Map_Mirror Try.f52 = true := by kernel_rfl
theorem ck70 : ckFun lk Try.prog bitmap_Map_Turn_1 Try.f80 = true := by kernel_rfl
theorem ck71 : ckFun lk Try.prog bitmap_Map_Turn Try.f53 = true := by kernel_rfl
theorem ck72 : ckFun lk Try.prog slices_Equal_uint64_uint64 Try.f76 = true := by kernel_rfl
theorem ck73 : ckFun lk Try.prog bitmap_Equal Try.f48 = true := by kernel_rfl
theorem ck74 : ckFun lk Try.prog burinref0_Size Try.f23 = true := by kernel_rfl
theorem ck75 : ckFun lk Try.prog burinref0_words Try.f64 = true := by kernel_rfl
theorem ck76 : ckFun lk Try.prog burinref0_May Try.f27 = true := by kernel_rfl
theorem ck77 : ckFun lk Try.prog burinref0_White Try.f49 = true := by kernel_rfl
theorem ck78 : ckFun lk Try.prog burinref0_Get Try.f29 = true := by kernel_rfl
theorem ck79 : ckFun lk Try.prog burinref0_Put Try.f50 = true := by kernel_rfl
theorem ck80 : ckFun lk Try.prog burinref0_Do Try.f45 = true := by kernel_rfl
theorem ck81 : ckFun lk Try.prog burinref0_Count Try.f30 = true := by kernel_rfl
theorem ck82 : ckFun lk Try.prog burinref0_CopyBitmap Try.f31 = true := by kernel_rfl
theorem ck83 : ckFun lk Try.prog burinref0_EqWords Try.f63 = true := by kernel_rfl
theorem ck84 : ckFun lk Try.prog burinref0_EqBitmap Try.f26 = true := by kernel_rfl
theorem ck85 : ckFun lk Try.prog burinref2_Set Try.f56 = true := by kernel_rfl
theorem ck86 : ckFun lk Try.prog burinref2_span Try.f82 = true := by kernel_rfl
theorem ck87 : ckFun lk Try.prog burinref2_Fill Try.f57 = true := by kernel_rfl
theorem ck88 : ckFun lk Try.prog burinref2_greater Try.f83 = true := by kernel_rfl
theorem ck89 : ckFun lk Try.prog burinref2_lesser Try.f84 = true := by kernel_rfl
theorem ck90 : ckFun lk Try.prog burinref2_Blit Try.f58 = true := by kernel_rfl
theorem ck91 : ckFun lk Try.prog burinref2_Crop Try.f85 = true := by kernel_rfl
theorem ck92 : ckFun lk Try.prog burinref2_Mirror Try.f33 = true := by kernel_rfl
theorem ck93 : ckFun lk Try.prog burinref2_Turn Try.f59 = true := by kernel_rfl
theorem ck94 : ckFun lk Try.prog burinref2_Invert Try.f32 = true := by kernel_rfl
theorem ck95 : ckFun lk Try.prog burinkit_LendBitmap Try.f18 = true := by kernel_rfl
theorem ck96 : ckFun lk Try.prog burinkit_BackBitmap Try.f20 = true := by kernel_rfl
theorem ck97 : ckFun lk Try.prog burinkit_OverWords Try.f75 = true := by kernel_rfl
theorem ck98 : ckFun lk Try.prog burinkit_Small Try.f28 = true := by kernel_rfl
theorem ck112 : ckFun lk Try.prog math_bits_Len64 Try.f92 = true := by kernel_rfl
theorem ck113 : ckFun lk Try.prog math_bits_LeadingZeros64 Try.f86 = true := by kernel_rfl
theorem ck114 : ckFun lk Try.prog runs_ends Try.f62 = true := by kernel_rfl
theorem ck115 : ckFun lk Try.prog runs_Of Try.f19 = true := by kernel_rfl
theorem ck116 : ckFun lk Try.prog runs_Back Try.f24 = true := by kernel_rfl
theorem ck117 : ckFun lk Try.prog runs_Touch Try.f34 = true := by kernel_rfl
theorem ck118 : ckFun lk Try.prog burinref9_Of Try.f17 = true := by kernel_rfl
theorem ck119 : ckFun lk Try.prog burinref9_Back Try.f25 = true := by kernel_rfl
theorem ck120 : ckFun lk Try.prog burinref9_Touch Try.f35 = true := by kernel_rfl
theorem ck121 : ckFun lk Try.prog burinref0_EqRuns Try.f21 = true := by kernel_rfl
theorem ck122 : ckFun lk Try.prog burinlaw9_wakes Try.f22 = true := by kernel_rfl
theorem ck127 : ckFun lk Try.prog burinlaw9_RunsMirrored Try.f6 = true := by kernel_rfl
theorem linked : Linked lk Try.prog prog where
  mixed := by kernel_rfl
  fn := fun g hg => by
    unfold lk at hg
    dsimp only at hg
    split at hg
    · exact ⟨_, _, rfl, Try.func65, ck39⟩
    · exact ⟨_, _, rfl, Try.func77, ck40⟩
    · exact ⟨_, _, rfl, Try.func61, ck41⟩
    · exact ⟨_, _, rfl, Try.func36, ck42⟩
    · exact ⟨_, _, rfl, Try.func69, ck43⟩
    · exact ⟨_, _, rfl, Try.func41, ck44⟩
    · exact ⟨_, _, rfl, Try.func46, ck45⟩
    · exact ⟨_, _, rfl, Try.func74, ck46⟩
    · exact ⟨_, _, rfl, Try.func67, ck47⟩
    · exact ⟨_, _, rfl, Try.func38, ck48⟩
    · exact ⟨_, _, rfl, Try.func68, ck49⟩
    · exact ⟨_, _, rfl, Try.func39, ck50⟩
    · exact ⟨_, _, rfl, Try.func66, ck51⟩
    · exact ⟨_, _, rfl, Try.func37, ck52⟩
    · exact ⟨_, _, rfl, Try.func81, ck53⟩
    · exact ⟨_, _, rfl, Try.func70, ck54⟩
    · exact ⟨_, _, rfl, Try.func72, ck55⟩
    · exact ⟨_, _, rfl, Try.func54, ck56⟩
    · exact ⟨_, _, rfl, Try.func87, ck57⟩
    · exact ⟨_, _, rfl, Try.func88, ck58⟩
    · exact ⟨_, _, rfl, Try.func89, ck59⟩
    · exact ⟨_, _, rfl, Try.func90, ck60⟩
    · exact ⟨_, _, rfl, Try.func91, ck61⟩
    · exact ⟨_, _, rfl, Try.func71, ck62⟩
    · exact ⟨_, _, rfl, Try.func73, ck63⟩
    · exact ⟨_, _, rfl, Try.func43, ck64⟩
    · exact ⟨_, _, rfl, Try.func47, ck65⟩
    · exact ⟨_, _, rfl, Try.func51, ck66⟩
    · exact ⟨_, _, rfl, Try.func78, ck67⟩
    · exact ⟨_, _, rfl, Try.func79, ck68⟩
    · exact ⟨_, _, rfl, Try.func52, ck69⟩
    · exact ⟨_, _, rfl, Try.func80, ck70⟩
    · exact ⟨_, _, rfl, Try.func53, ck71⟩
    · exact ⟨_, _, rfl, Try.func76, ck72⟩
    · exact ⟨_, _, rfl, Try.func48, ck73⟩
    · exact ⟨_, _, rfl, Try.func23, ck74⟩
    · exact ⟨_, _, rfl, Try.func64, ck75⟩
    · exact ⟨_, _, rfl, Try.func27, ck76⟩
    · exact ⟨_, _, rfl, Try.func49, ck77⟩
    · exact ⟨_, _, rfl, Try.func29, ck78⟩
    · exact ⟨_, _, rfl, Try.func50, ck79⟩
    · exact ⟨_, _, rfl, Try.func45, ck80⟩
    · exact ⟨_, _, rfl, Try.func30, ck81⟩
    · exact ⟨_, _, rfl, Try.func31, ck82⟩
    · exact ⟨_, _, rfl, Try.func63, ck83⟩
    · exact ⟨_, _, rfl, Try.func26, ck84⟩
    · exact ⟨_, _, rfl, Try.func56, ck85⟩
    · exact ⟨_, _, rfl, Try.func82, ck86⟩
    · exact ⟨_, _, rfl, Try.func57, ck87⟩
    · exact ⟨_, _, rfl, Try.func83, ck88⟩
    · exact ⟨_, _, rfl, Try.func84, ck89⟩
    · exact ⟨_, _, rfl, Try.func58, ck90⟩
    · exact ⟨_, _, rfl, Try.func85, ck91⟩
    · exact ⟨_, _, rfl, Try.func33, ck92⟩
    · exact ⟨_, _, rfl, Try.func59, ck93⟩
    · exact ⟨_, _, rfl, Try.func32, ck94⟩
    · exact ⟨_, _, rfl, Try.func18, ck95⟩
    · exact ⟨_, _, rfl, Try.func20, ck96⟩
    · exact ⟨_, _, rfl, Try.func75, ck97⟩
    · exact ⟨_, _, rfl, Try.func28, ck98⟩
    · exact ⟨_, _, rfl, Try.func92, ck112⟩
    · exact ⟨_, _, rfl, Try.func86, ck113⟩
    · exact ⟨_, _, rfl, Try.func62, ck114⟩
    · exact ⟨_, _, rfl, Try.func19, ck115⟩
    · exact ⟨_, _, rfl, Try.func24, ck116⟩
    · exact ⟨_, _, rfl, Try.func34, ck117⟩
    · exact ⟨_, _, rfl, Try.func17, ck118⟩
    · exact ⟨_, _, rfl, Try.func25, ck119⟩
    · exact ⟨_, _, rfl, Try.func35, ck120⟩
    · exact ⟨_, _, rfl, Try.func21, ck121⟩
    · exact ⟨_, _, rfl, Try.func22, ck122⟩
    · exact ⟨_, _, rfl, Try.func6, ck127⟩
    · cases hg
end Go.Proofs.Ytdkgdneiilnppaa
