/- The link between the abstract program and this seat's translation: every function's text is the translation's, checked by the kernel. Conditions: none. -/
import Derived.Test.YtnmjcajalnidmaaK3
import Derived.Test.YtnmjcajalnidmaaPBm
import Derived.Test.YtnmjcajalnidmaaPRz
import Derived.Test.YtnmjcajalnidmaaPDoc
import Derived.Test.YtnmjcajalnidmaaPL2h
import Derived.Test.YtnmjcajalnidmaaPKit2
import Derived.Test.YtnmjcajalnidmaaPKitW
import Derived.Test.YtnmjcajalnidmaaPL20Undo
import Derived.Test.YtnmjcajalnidmaaRows
import Derived.KernelRfl
set_option linter.all false
namespace Go.Proofs.Ytnmjcajalnidmaa
open Go.Ab
def lk : Lk where
  φ := fun g => match g with
    | 29 => 17
    | 39 => 35
    | 40 => 53
    | 41 => 52
    | 42 => 20
    | 43 => 44
    | 44 => 46
    | 45 => 33
    | 47 => 37
    | 49 => 38
    | 50 => 26
    | 53 => 39
    | 54 => 41
    | 55 => 40
    | 56 => 28
    | 57 => 47
    | 58 => 48
    | 59 => 49
    | 60 => 50
    | 61 => 51
    | 62 => 42
    | 63 => 43
    | 64 => 31
    | 74 => 7
    | 83 => 34
    | 84 => 19
    | 97 => 32
    | 128 => 6
    | 129 => 21
    | 130 => 22
    | 131 => 29
    | 132 => 23
    | 133 => 8
    | 134 => 9
    | 135 => 18
    | 136 => 45
    | 137 => 36
    | 138 => 24
    | 139 => 25
    | 140 => 12
    | 141 => 27
    | 142 => 13
    | 143 => 30
    | 144 => 14
    | 145 => 16
    | 146 => 10
    | 148 => 11
    | 149 => 15
    | 150 => 4
    | _ => 0
  τ := fun _ => 0
  dom := fun g => match g with
    | 29 => true
    | 39 => true
    | 40 => true
    | 41 => true
    | 42 => true
    | 43 => true
    | 44 => true
    | 45 => true
    | 47 => true
    | 49 => true
    | 50 => true
    | 53 => true
    | 54 => true
    | 55 => true
    | 56 => true
    | 57 => true
    | 58 => true
    | 59 => true
    | 60 => true
    | 61 => true
    | 62 => true
    | 63 => true
    | 64 => true
    | 74 => true
    | 83 => true
    | 84 => true
    | 97 => true
    | 128 => true
    | 129 => true
    | 130 => true
    | 131 => true
    | 132 => true
    | 133 => true
    | 134 => true
    | 135 => true
    | 136 => true
    | 137 => true
    | 138 => true
    | 139 => true
    | 140 => true
    | 141 => true
    | 142 => true
    | 143 => true
    | 144 => true
    | 145 => true
    | 146 => true
    | 148 => true
    | 149 => true
    | 150 => true
    | _ => false
def prog : Prog := fun g => match g with
    | 29 => some burinkit_Within
    | 39 => some bitmap_sized
    | 40 => some bitmap_last
    | 41 => some bitmap_Check
    | 42 => some bitmap_New
    | 43 => some slices_Clone_uint64_uint64
    | 44 => some bitmap_From
    | 45 => some bitmap_Map_Plain
    | 47 => some bitmap_Map_inside
    | 49 => some bitmap_Map_put
    | 50 => some bitmap_Map_Set
    | 53 => some bitmap_cut
    | 54 => some bitmap_both
    | 55 => some bitmap_mask
    | 56 => some bitmap_Map_Fill
    | 57 => some bitmap_operations_1
    | 58 => some bitmap_operations_2
    | 59 => some bitmap_operations_3
    | 60 => some bitmap_operations_4
    | 61 => some bitmap_operations_5
    | 62 => some bitmap_operations
    | 63 => some bitmap_word
    | 64 => some bitmap_Map_Blit
    | 74 => some burinref0_Size
    | 83 => some burinref0_EqWords
    | 84 => some burinref0_EqBitmap
    | 97 => some burinkit_OverWords
    | 128 => some doc_New
    | 129 => some doc_told
    | 130 => some doc_Doc_done
    | 131 => some doc_Doc_is
    | 132 => some doc_Doc_NewPage_1
    | 133 => some doc_Doc_NewPage
    | 134 => some doc_Doc_Pages
    | 135 => some doc_Doc_Page
    | 136 => some doc_Doc_kept_1
    | 137 => some doc_Doc_kept
    | 138 => some doc_Doc_draw
    | 139 => some doc_Doc_Set_1
    | 140 => some doc_Doc_Set
    | 141 => some doc_Doc_Fill_1
    | 142 => some doc_Doc_Fill
    | 143 => some doc_Doc_Blit_1
    | 144 => some doc_Doc_Blit
    | 145 => some doc_Doc_Undo
    | 146 => some burinlaw20_wakes
    | 148 => some burinlaw20_pages
    | 149 => some burinlaw20_same
    | 150 => some burinlaw20_DocUndo
    | 46 => some bitmap_Map_Size
    | 48 => some bitmap_Map_Get
    | 51 => some math_bits_OnesCount64
    | 52 => some bitmap_Map_Count
    | 65 => some bitmap_Map_Crop
    | 66 => some bitmap_Map_Invert
    | 67 => some bitmap_Map_turned
    | 68 => some bitmap_Map_Mirror_1
    | 69 => some bitmap_Map_Mirror
    | 70 => some bitmap_Map_Turn_1
    | 71 => some bitmap_Map_Turn
    | 72 => some slices_Equal_uint64_uint64
    | 73 => some bitmap_Equal
    | 75 => some burinref0_words
    | 76 => some burinref0_May
    | 77 => some burinref0_White
    | 78 => some burinref0_Get
    | 79 => some burinref0_Put
    | 80 => some burinref0_Do
    | 81 => some burinref0_Count
    | 82 => some burinref0_CopyBitmap
    | 95 => some burinkit_LendBitmap
    | 96 => some burinkit_BackBitmap
    | 98 => some burinkit_Small
    | 99 => some burinlaw2_wakes
    | 101 => some burinlaw2_same
    | _ => none
theorem ck29 : ckFun lk Try.prog burinkit_Within Try.f17 = true := by kernel_rfl
theorem ck39 : ckFun lk Try.prog bitmap_sized Try.f35 = true := by kernel_rfl
theorem ck40 : ckFun lk Try.prog bitmap_last Try.f53 = true := by kernel_rfl
theorem ck41 : ckFun lk Try.prog bitmap_Check Try.f52 = true := by kernel_rfl
theorem ck42 : ckFun lk Try.prog bitmap_New Try.f20 = true := by kernel_rfl
theorem ck43 : ckFun lk Try.prog slices_Clone_uint64_uint64 Try.f44 = true := by kernel_rfl
theorem ck44 : ckFun lk Try.prog bitmap_From Try.f46 = true := by kernel_rfl
theorem ck45 : ckFun lk Try.prog bitmap_Map_Plain Try.f33 = true := by kernel_rfl
theorem ck47 : ckFun lk Try.prog bitmap_Map_inside Try.f37 = true := by kernel_rfl
theorem ck49 : ckFun lk Try.prog bitmap_Map_put Try.f38 = true := by kernel_rfl
theorem ck50 : ckFun lk Try.prog bitmap_Map_Set Try.f26 = true := by kernel_rfl
theorem ck53 : ckFun lk Try.prog bitmap_cut Try.f39 = true := by kernel_rfl
theorem ck54 : ckFun lk Try.prog bitmap_both Try.f41 = true := by kernel_rfl
theorem ck55 : ckFun lk Try.prog bitmap_mask Try.f40 = true := by kernel_rfl
theorem ck56 : ckFun lk Try.prog bitmap_Map_Fill Try.f28 = true := by kernel_rfl
theorem ck57 : ckFun lk Try.prog bitmap_operations_1 Try.f47 = true := by kernel_rfl
theorem ck58 : ckFun lk Try.prog bitmap_operations_2 Try.f48 = true := by kernel_rfl
theorem ck59 : ckFun lk Try.prog bitmap_operations_3 Try.f49 = true := by kernel_rfl
theorem ck60 : ckFun lk Try.prog bitmap_operations_4 Try.f50 = true := by kernel_rfl
theorem ck61 : ckFun lk Try.prog bitmap_operations_5 Try.f51 = true := by kernel_rfl
theorem ck62 : ckFun lk Try.prog bitmap_operations Try.f42 = true := by kernel_rfl
theorem ck63 : ckFun lk Try.prog bitmap_word Try.f43 = true := by kernel_rfl
theorem ck64 : ckFun lk Try.prog bitmap_Map_Blit Try.f31 = true := by kernel_rfl
theorem ck74 : ckFun lk Try.prog burinref0_Size Try.f7 = true := by kernel_rfl
theorem ck83 : ckFun lk Try.prog burinref0_EqWords Try.f34 = true := by kernel_rfl
theorem ck84 : ckFun lk Try.prog burinref0_EqBitmap Try.f19 = true := by kernel_rfl
theorem ck97 : ckFun lk Try.prog burinkit_OverWords Try.f32 = true := by kernel_rfl
theorem ck128 : ckFun lk Try.prog doc_New Try.f6 = true := by kernel_rfl
theorem ck129 : ckFun lk Try.prog doc_told Try.f21 = true := by kernel_rfl
theorem ck130 : ckFun lk Try.prog doc_Doc_done Try.f22 = true := by kernel_rfl
theorem ck131 : ckFun lk Try.prog doc_Doc_is Try.f29 = true := by kernel_rfl
theorem ck132 : ckFun lk Try.prog doc_Doc_NewPage_1 Try.f23 = true := by kernel_rfl
theorem ck133 : ckFun lk Try.prog doc_Doc_NewPage Try.f8 = true := by kernel_rfl
theorem ck134 : ckFun lk Try.prog doc_Doc_Pages Try.f9 = true := by kernel_rfl
theorem ck135 : ckFun lk Try.prog doc_Doc_Page Try.f18 = true := by kernel_rfl
theorem ck136 : ckFun lk Try.prog doc_Doc_kept_1 Try.f45 = true := by kernel_rfl
theorem ck137 : ckFun lk Try.prog doc_Doc_kept Try.f36 = true := by kernel_rfl
theorem ck138 : ckFun lk Try.prog doc_Doc_draw Try.f24 = true := by kernel_rfl
theorem ck139 : ckFun lk Try.prog doc_Doc_Set_1 Try.f25 = true := by kernel_rfl
theorem ck140 : ckFun lk Try.prog doc_Doc_Set Try.f12 = true := by kernel_rfl
theorem ck141 : ckFun lk Try.prog doc_Doc_Fill_1 Try.f27 = true := by kernel_rfl
theorem ck142 : ckFun lk Try.prog doc_Doc_Fill Try.f13 = true := by kernel_rfl
theorem ck143 : ckFun lk Try.prog doc_Doc_Blit_1 Try.f30 = true := by kernel_rfl
theorem ck144 : ckFun lk Try.prog doc_Doc_Blit Try.f14 = true := by kernel_rfl
theorem ck145 : ckFun lk Try.prog doc_Doc_Undo Try.f16 = true := by kernel_rfl
theorem ck146 : ckFun lk Try.prog burinlaw20_wakes Try.f10 = true := by kernel_rfl
theorem ck148 : ckFun lk Try.prog burinlaw20_pages Try.f11 = true := by kernel_rfl
theorem ck149 : ckFun lk Try.prog burinlaw20_same Try.f15 = true := by kernel_rfl
theorem ck150 : ckFun lk Try.prog burinlaw20_DocUndo Try.f4 = true := by kernel_rfl
theorem linked : Linked lk Try.prog prog where
  mixed := by kernel_rfl
  fn := fun g hg => by
    unfold lk at hg
    dsimp only at hg
    split at hg
    · exact ⟨_, _, rfl, Try.func17, ck29⟩
    · exact ⟨_, _, rfl, Try.func35, ck39⟩
    · exact ⟨_, _, rfl, Try.func53, ck40⟩
    · exact ⟨_, _, rfl, Try.func52, ck41⟩
    · exact ⟨_, _, rfl, Try.func20, ck42⟩
    · exact ⟨_, _, rfl, Try.func44, ck43⟩
    · exact ⟨_, _, rfl, Try.func46, ck44⟩
    · exact ⟨_, _, rfl, Try.func33, ck45⟩
    · exact ⟨_, _, rfl, Try.func37, ck47⟩
    · exact ⟨_, _, rfl, Try.func38, ck49⟩
    · exact ⟨_, _, rfl, Try.func26, ck50⟩
    · exact ⟨_, _, rfl, Try.func39, ck53⟩
    · exact ⟨_, _, rfl, Try.func41, ck54⟩
    · exact ⟨_, _, rfl, Try.func40, ck55⟩
    · exact ⟨_, _, rfl, Try.func28, ck56⟩
    · exact ⟨_, _, rfl, Try.func47, ck57⟩
    · exact ⟨_, _, rfl, Try.func48, ck58⟩
    · exact ⟨_, _, rfl, Try.func49, ck59⟩
    · exact ⟨_, _, rfl, Try.func50, ck60⟩
    · exact ⟨_, _, rfl, Try.func51, ck61⟩
    · exact ⟨_, _, rfl, Try.func42, ck62⟩
    · exact ⟨_, _, rfl, Try.func43, ck63⟩
    · exact ⟨_, _, rfl, Try.func31, ck64⟩
    · exact ⟨_, _, rfl, Try.func7, ck74⟩
    · exact ⟨_, _, rfl, Try.func34, ck83⟩
    · exact ⟨_, _, rfl, Try.func19, ck84⟩
    · exact ⟨_, _, rfl, Try.func32, ck97⟩
    · exact ⟨_, _, rfl, Try.func6, ck128⟩
    · exact ⟨_, _, rfl, Try.func21, ck129⟩
    · exact ⟨_, _, rfl, Try.func22, ck130⟩
    · exact ⟨_, _, rfl, Try.func29, ck131⟩
    · exact ⟨_, _, rfl, Try.func23, ck132⟩
    · exact ⟨_, _, rfl, Try.func8, ck133⟩
    · exact ⟨_, _, rfl, Try.func9, ck134⟩
    · exact ⟨_, _, rfl, Try.func18, ck135⟩
    · exact ⟨_, _, rfl, Try.func45, ck136⟩
    · exact ⟨_, _, rfl, Try.func36, ck137⟩
    · exact ⟨_, _, rfl, Try.func24, ck138⟩
    · exact ⟨_, _, rfl, Try.func25, ck139⟩
    · exact ⟨_, _, rfl, Try.func12, ck140⟩
    · exact ⟨_, _, rfl, Try.func27, ck141⟩
    · exact ⟨_, _, rfl, Try.func13, ck142⟩
    · exact ⟨_, _, rfl, Try.func30, ck143⟩
    · exact ⟨_, _, rfl, Try.func14, ck144⟩
    · exact ⟨_, _, rfl, Try.func16, ck145⟩
    · exact ⟨_, _, rfl, Try.func10, ck146⟩
    · exact ⟨_, _, rfl, Try.func11, ck148⟩
    · exact ⟨_, _, rfl, Try.func15, ck149⟩
    · exact ⟨_, _, rfl, Try.func4, ck150⟩
    · cases hg
end Go.Proofs.Ytnmjcajalnidmaa
