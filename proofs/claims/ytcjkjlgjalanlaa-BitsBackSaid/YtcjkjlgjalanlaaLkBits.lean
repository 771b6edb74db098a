/- The link between the abstract program and this seat's translation: every function's text is the translation's, checked by the kernel. Conditions: none. -/
import Derived.Test.YtcjkjlgjalanlaaAo
import Derived.Test.YtcjkjlgjalanlaaPBits
import Derived.Test.YtcjkjlgjalanlaaPRefBits
import Derived.Test.YtcjkjlgjalanlaaPKit
import Derived.Test.YtcjkjlgjalanlaaPLawBits
import Derived.Test.YtcjkjlgjalanlaaRows
import Derived.KernelRfl
set_option linter.all false
namespace Go.Proofs.Ytcjkjlgjalanlaa
open Go.Ab
def lk : Lk where
  φ := fun g => match g with
    | 0 => 36
    | 1 => 39
    | 2 => 40
    | 3 => 41
    | 4 => 9
    | 5 => 17
    | 6 => 10
    | 7 => 20
    | 8 => 22
    | 9 => 11
    | 10 => 12
    | 11 => 15
    | 12 => 27
    | 13 => 38
    | 14 => 37
    | 15 => 14
    | 16 => 32
    | 17 => 18
    | 18 => 35
    | 19 => 19
    | 20 => 21
    | 21 => 24
    | 22 => 34
    | 23 => 30
    | 24 => 31
    | 25 => 33
    | 26 => 23
    | 27 => 13
    | 28 => 25
    | 29 => 26
    | 30 => 28
    | 31 => 29
    | 32 => 16
    | 33 => 3
    | 34 => 4
    | 35 => 5
    | 36 => 6
    | 37 => 7
    | 38 => 8
    | _ => 0
  τ := fun _ => 0
  dom := fun g => match g with
    | 0 => true
    | 1 => true
    | 2 => true
    | 3 => true
    | 4 => true
    | 5 => true
    | 6 => true
    | 7 => true
    | 8 => true
    | 9 => true
    | 10 => true
    | 11 => true
    | 12 => true
    | 13 => true
    | 14 => true
    | 15 => true
    | 16 => true
    | 17 => true
    | 18 => true
    | 19 => true
    | 20 => true
    | 21 => true
    | 22 => true
    | 23 => true
    | 24 => true
    | 25 => true
    | 26 => true
    | 27 => true
    | 28 => true
    | 29 => true
    | 30 => true
    | 31 => true
    | 32 => true
    | 33 => true
    | 34 => true
    | 35 => true
    | 36 => true
    | 37 => true
    | 38 => true
    | _ => false
def prog : Prog := fun g => match g with
    | 0 => some bits_lay_uint8
    | 1 => some bits_lay_uint64
    | 2 => some bits_told_uint64
    | 3 => some bits_told_uint8
    | 4 => some bits_NewWriter
    | 5 => some bits_Writer_Put
    | 6 => some bits_Writer_Var
    | 7 => some bits_Writer_Align
    | 8 => some bits_Writer_Len
    | 9 => some bits_Writer_Bytes
    | 10 => some bits_NewReader
    | 11 => some bits_Reader_Left
    | 12 => some bits_Reader_Take
    | 13 => some bits_Reader_group
    | 14 => some bits_Reader_Var_1
    | 15 => some bits_Reader_Var
    | 16 => some bits_Reader_Align
    | 17 => some burinref1_Writer_Put
    | 18 => some burinref1_Groups
    | 19 => some burinref1_Writer_Var
    | 20 => some burinref1_Writer_Align
    | 21 => some burinref1_Writer_Bytes
    | 22 => some burinref1_Reader_Left
    | 23 => some burinref1_Reader_Take
    | 24 => some burinref1_Reader_Var
    | 25 => some burinref1_Reader_Align
    | 26 => some burinref0_Eq
    | 27 => some burinref0_Copy
    | 28 => some burinkit_Over
    | 29 => some burinkit_Within
    | 30 => some burinkit_Lend
    | 31 => some burinkit_Back
    | 32 => some burinlaw1_wakes
    | 33 => some burinlaw1_BitsVars
    | 34 => some burinlaw1_BitsWrites
    | 35 => some burinlaw1_BitsRoom
    | 36 => some burinlaw1_BitsParts
    | 37 => some burinlaw1_BitsReads
    | 38 => some burinlaw1_BitsBack
    | _ => none
theorem ck0 : ckFun lk Try.prog bits_lay_uint8 Try.f36 = true := by kernel_rfl
theorem ck1 : ckFun lk Try.prog bits_lay_uint64 Try.f39 = true := by kernel_rfl
theorem ck2 : ckFun lk Try.prog bits_told_uint64 Try.f40 = true := by kernel_rfl
theorem ck3 : ckFun lk Try.prog bits_told_uint8 Try.f41 = true := by kernel_rfl
theorem ck4 : ckFun lk Try.prog bits_NewWriter Try.f9 = true := by kernel_rfl
theorem ck5 : ckFun lk Try.prog bits_Writer_Put Try.f17 = true := by kernel_rfl
theorem ck6 : ckFun lk Try.prog bits_Writer_Var Try.f10 = true := by kernel_rfl
theorem ck7 : ckFun lk Try.prog bits_Writer_Align Try.f20 = true := by kernel_rfl
theorem ck8 : ckFun lk Try.prog bits_Writer_Len Try.f22 = true := by kernel_rfl
theorem ck9 : ckFun lk Try.prog bits_Writer_Bytes Try.f11 = true := by kernel_rfl
theorem ck10 : ckFun lk Try.prog bits_NewReader Try.f12 = true := by kernel_rfl
theorem ck11 : ckFun lk Try.prog bits_Reader_Left Try.f15 = true := by kernel_rfl
theorem ck12 : ckFun lk Try.prog bits_Reader_Take Try.f27 = true := by kernel_rfl
theorem ck13 : ckFun lk Try.prog bits_Reader_group Try.f38 = true := by kernel_rfl
theorem ck14 : ckFun lk Try.prog bits_Reader_Var_1 Try.f37 = true := by kernel_rfl
theorem ck15 : ckFun lk Try.prog bits_Reader_Var Try.f14 = true := by kernel_rfl
theorem ck16 : ckFun lk Try.prog bits_Reader_Align Try.f32 = true := by kernel_rfl
theorem ck17 : ckFun lk Try.prog burinref1_Writer_Put Try.f18 = true := by kernel_rfl
theorem ck18 : ckFun lk Try.prog burinref1_Groups Try.f35 = true := by kernel_rfl
theorem ck19 : ckFun lk Try.prog burinref1_Writer_Var Try.f19 = true := by kernel_rfl
theorem ck20 : ckFun lk Try.prog burinref1_Writer_Align Try.f21 = true := by kernel_rfl
theorem ck21 : ckFun lk Try.prog burinref1_Writer_Bytes Try.f24 = true := by kernel_rfl
theorem ck22 : ckFun lk Try.prog burinref1_Reader_Left Try.f34 = true := by kernel_rfl
theorem ck23 : ckFun lk Try.prog burinref1_Reader_Take Try.f30 = true := by kernel_rfl
theorem ck24 : ckFun lk Try.prog burinref1_Reader_Var Try.f31 = true := by kernel_rfl
theorem ck25 : ckFun lk Try.prog burinref1_Reader_Align Try.f33 = true := by kernel_rfl
theorem ck26 : ckFun lk Try.prog burinref0_Eq Try.f23 = true := by kernel_rfl
theorem ck27 : ckFun lk Try.prog burinref0_Copy Try.f13 = true := by kernel_rfl
theorem ck28 : ckFun lk Try.prog burinkit_Over Try.f25 = true := by kernel_rfl
theorem ck29 : ckFun lk Try.prog burinkit_Within Try.f26 = true := by kernel_rfl
theorem ck30 : ckFun lk Try.prog burinkit_Lend Try.f28 = true := by kernel_rfl
theorem ck31 : ckFun lk Try.prog burinkit_Back Try.f29 = true := by kernel_rfl
theorem ck32 : ckFun lk Try.prog burinlaw1_wakes Try.f16 = true := by kernel_rfl
theorem ck33 : ckFun lk Try.prog burinlaw1_BitsVars Try.f3 = true := by kernel_rfl
theorem ck34 : ckFun lk Try.prog burinlaw1_BitsWrites Try.f4 = true := by kernel_rfl
theorem ck35 : ckFun lk Try.prog burinlaw1_BitsRoom Try.f5 = true := by kernel_rfl
theorem ck36 : ckFun lk Try.prog burinlaw1_BitsParts Try.f6 = true := by kernel_rfl
theorem ck37 : ckFun lk Try.prog burinlaw1_BitsReads Try.f7 = true := by kernel_rfl
theorem ck38 : ckFun lk Try.prog burinlaw1_BitsBack Try.f8 = true := by kernel_rfl
theorem linked : Linked lk Try.prog prog where
  mixed := by kernel_rfl
  fn := fun g hg => by
    unfold lk at hg
    dsimp only at hg
    split at hg
    · exact ⟨_, _, rfl, Try.func36, ck0⟩
    · exact ⟨_, _, rfl, Try.func39, ck1⟩
    · exact ⟨_, _, rfl, Try.func40, ck2⟩
    · exact ⟨_, _, rfl, Try.func41, ck3⟩
    · exact ⟨_, _, rfl, Try.func9, ck4⟩
    · exact ⟨_, _, rfl, Try.func17, ck5⟩
    · exact ⟨_, _, rfl, Try.func10, ck6⟩
    · exact ⟨_, _, rfl, Try.func20, ck7⟩
    · exact ⟨_, _, rfl, Try.func22, ck8⟩
    · exact ⟨_, _, rfl, Try.func11, ck9⟩
    · exact ⟨_, _, rfl, Try.func12, ck10⟩
    · exact ⟨_, _, rfl, Try.func15, ck11⟩
    · exact ⟨_, _, rfl, Try.func27, ck12⟩
    · exact ⟨_, _, rfl, Try.func38, ck13⟩
    · exact ⟨_, _, rfl, Try.func37, ck14⟩
    · exact ⟨_, _, rfl, Try.func14, ck15⟩
    · exact ⟨_, _, rfl, Try.func32, ck16⟩
    · exact ⟨_, _, rfl, Try.func18, ck17⟩
    · exact ⟨_, _, rfl, Try.func35, ck18⟩
    · exact ⟨_, _, rfl, Try.func19, ck19⟩
    · exact ⟨_, _, rfl, Try.func21, ck20⟩
    · exact ⟨_, _, rfl, Try.func24, ck21⟩
    · exact ⟨_, _, rfl, Try.func34, ck22⟩
    · exact ⟨_, _, rfl, Try.func30, ck23⟩
    · exact ⟨_, _, rfl, Try.func31, ck24⟩
    · exact ⟨_, _, rfl, Try.func33, ck25⟩
    · exact ⟨_, _, rfl, Try.func23, ck26⟩
    · exact ⟨_, _, rfl, Try.func13, ck27⟩
    · exact ⟨_, _, rfl, Try.func25, ck28⟩
    · exact ⟨_, _, rfl, Try.func26, ck29⟩
    · exact ⟨_, _, rfl, Try.func28, ck30⟩
    · exact ⟨_, _, rfl, Try.func29, ck31⟩
    · exact ⟨_, _, rfl, Try.func16, ck32⟩
    · exact ⟨_, _, rfl, Try.func3, ck33⟩
    · exact ⟨_, _, rfl, Try.func4, ck34⟩
    · exact ⟨_, _, rfl, Try.func5, ck35⟩
    · exact ⟨_, _, rfl, Try.func6, ck36⟩
    · exact ⟨_, _, rfl, Try.func7, ck37⟩
    · exact ⟨_, _, rfl, Try.func8, ck38⟩
    · cases hg
end Go.Proofs.Ytcjkjlgjalanlaa
