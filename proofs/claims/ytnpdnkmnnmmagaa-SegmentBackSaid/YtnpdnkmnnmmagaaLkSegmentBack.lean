/- The link between the abstract program and this seat's translation: every function's text is the translation's, checked by the kernel. Conditions: none. -/
import Derived.Test.YtnpdnkmnnmmagaaK3
import Derived.Test.YtnpdnkmnnmmagaaPBits
import Derived.Test.YtnpdnkmnnmmagaaPSeg
import Derived.Test.YtnpdnkmnnmmagaaPKit
import Derived.Test.YtnpdnkmnnmmagaaPL16Back
import Derived.Test.YtnpdnkmnnmmagaaPKitW
import Derived.Test.YtnpdnkmnnmmagaaRows
import Derived.KernelRfl
set_option linter.all false
namespace Go.Proofs.Ytnpdnkmnnmmagaa
open Go.Ab
def lk : Lk where
  φ := fun g => match g with
    | 0 => 37
    | 1 => 38
    | 2 => 46
    | 3 => 47
    | 4 => 17
    | 5 => 19
    | 6 => 18
    | 7 => 21
    | 9 => 22
    | 10 => 34
    | 11 => 36
    | 12 => 40
    | 13 => 49
    | 14 => 48
    | 15 => 45
    | 16 => 44
    | 26 => 11
    | 27 => 14
    | 152 => 27
    | 153 => 28
    | 154 => 9
    | 155 => 20
    | 156 => 7
    | 157 => 42
    | 158 => 41
    | 159 => 39
    | 160 => 43
    | 161 => 35
    | 162 => 33
    | 163 => 15
    | 164 => 31
    | 165 => 32
    | 166 => 12
    | 167 => 13
    | 176 => 4
    | _ => 0
  τ := fun t => match t with
    | 0 => 70
    | _ => 0
  dom := fun g => match g with
    | 0 => true
    | 1 => true
    | 2 => true
    | 3 => true
    | 4 => true
    | 5 => true
    | 6 => true
    | 7 => true
    | 9 => true
    | 10 => true
    | 11 => true
    | 12 => true
    | 13 => true
    | 14 => true
    | 15 => true
    | 16 => true
    | 26 => true
    | 27 => true
    | 152 => true
    | 153 => true
    | 154 => true
    | 155 => true
    | 156 => true
    | 157 => true
    | 158 => true
    | 159 => true
    | 160 => true
    | 161 => true
    | 162 => true
    | 163 => true
    | 164 => true
    | 165 => true
    | 166 => true
    | 167 => true
    | 176 => true
    | _ => false
def prog : Prog := fun g => match g with
    | 0 => some bits_lay_uint8
    | 1 => some bits_lay_uint64
    | 2 => some bits_told_uint64
    | 3 => some bits_told_uint8
    | 4 => some bits_NewWriter
    | 5 => some bits_Writer_Put
    | 6 => some bits_Writer_Var
    | 7 => some bits_Writer_Align
    | 9 => some bits_Writer_Bytes
    | 10 => some bits_NewReader
    | 11 => some bits_Reader_Left
    | 12 => some bits_Reader_Take
    | 13 => some bits_Reader_group
    | 14 => some bits_Reader_Var_1
    | 15 => some bits_Reader_Var
    | 16 => some bits_Reader_Align
    | 26 => some burinref0_Eq
    | 27 => some burinref0_Copy
    | 152 => some segment_allowed
    | 153 => some segment_rule_paged
    | 154 => some segment_Check
    | 155 => some segment_flag
    | 156 => some segment_Encode
    | 157 => some segment_wrong
    | 158 => some segment_need
    | 159 => some segment_reader_number
    | 160 => some segment_reader_flag
    | 161 => some segment_reader_head
    | 162 => some segment_Decode_1
    | 163 => some segment_Decode
    | 164 => some burinref0_EqInts
    | 165 => some burinref0_EqFlags
    | 166 => some burinref0_EqSegment
    | 167 => some burinlaw16_wakes
    | 176 => some burinlaw16_SegmentBack
    | 8 => some bits_Writer_Len
    | 28 => some burinkit_Over
    | 29 => some burinkit_Within
    | 30 => some burinkit_Lend
    | 31 => some burinkit_Back
    | _ => none
theorem ck0 : ckFun lk Try.prog bits_lay_uint8 Try.f37 = true := by kernel_rfl
theorem ck1 : ckFun lk Try.prog bits_lay_uint64 Try.f38 = true := by kernel_rfl
theorem ck2 : ckFun lk Try.prog bits_told_uint64 Try.f46 = true := by kernel_rfl
theorem ck3 : ckFun lk Try.prog bits_told_uint8 Try.f47 = true := by kernel_rfl
theorem ck4 : ckFun lk Try.prog bits_NewWriter Try.f17 = true := by kernel_rfl
theorem ck5 : ckFun lk Try.prog bits_Writer_Put Try.f19 = true := by kernel_rfl
theorem ck6 : ckFun lk Try.prog bits_Writer_Var Try.f18 = true := by kernel_rfl
theorem ck7 : ckFun lk Try.prog bits_Writer_Align Try.f21 = true := by kernel_rfl
theorem ck9 : ckFun lk Try.prog bits_Writer_Bytes Try.f22 = true := by kernel_rfl
theorem ck10 : ckFun lk Try.prog bits_NewReader Try.f34 = true := by kernel_rfl
theorem ck11 : ckFun lk Try.prog bits_Reader_Left Try.f36 = true := by kernel_rfl
theorem ck12 : ckFun lk Try.prog bits_Reader_Take Try.f40 = true := by kernel_rfl
theorem ck13 : ckFun lk Try.prog bits_Reader_group Try.f49 = true := by kernel_rfl
theorem ck14 : ckFun lk Try.prog bits_Reader_Var_1 Try.f48 = true := by kernel_rfl
theorem ck15 : ckFun lk Try.prog bits_Reader_Var Try.f45 = true := by kernel_rfl
theorem ck16 : ckFun lk Try.prog bits_Reader_Align Try.f44 = true := by kernel_rfl
theorem ck26 : ckFun lk Try.prog burinref0_Eq Try.f11 = true := by kernel_rfl
theorem ck27 : ckFun lk Try.prog burinref0_Copy Try.f14 = true := by kernel_rfl
theorem ck152 : ckFun lk Try.prog segment_allowed Try.f27 = true := by kernel_rfl
theorem ck153 : ckFun lk Try.prog segment_rule_paged Try.f28 = true := by kernel_rfl
theorem ck154 : ckFun lk Try.prog segment_Check Try.f9 = true := by kernel_rfl
theorem ck155 : ckFun lk Try.prog segment_flag Try.f20 = true := by kernel_rfl
theorem ck156 : ckFun lk Try.prog segment_Encode Try.f7 = true := by kernel_rfl
theorem ck157 : ckFun lk Try.prog segment_wrong Try.f42 = true := by kernel_rfl
theorem ck158 : ckFun lk Try.prog segment_need Try.f41 = true := by kernel_rfl
theorem ck159 : ckFun lk Try.prog segment_reader_number Try.f39 = true := by kernel_rfl
theorem ck160 : ckFun lk Try.prog segment_reader_flag Try.f43 = true := by kernel_rfl
theorem ck161 : ckFun lk Try.prog segment_reader_head Try.f35 = true := by kernel_rfl
theorem ck162 : ckFun lk Try.prog segment_Decode_1 Try.f33 = true := by kernel_rfl
theorem ck163 : ckFun lk Try.prog segment_Decode Try.f15 = true := by kernel_rfl
theorem ck164 : ckFun lk Try.prog burinref0_EqInts Try.f31 = true := by kernel_rfl
theorem ck165 : ckFun lk Try.prog burinref0_EqFlags Try.f32 = true := by kernel_rfl
theorem ck166 : ckFun lk Try.prog burinref0_EqSegment Try.f12 = true := by kernel_rfl
theorem ck167 : ckFun lk Try.prog burinlaw16_wakes Try.f13 = true := by kernel_rfl
theorem ck176 : ckFun lk Try.prog burinlaw16_SegmentBack Try.f4 = true := by kernel_rfl
theorem linked : Linked lk Try.prog prog where
  mixed := by kernel_rfl
  fn := fun g hg => by
    unfold lk at hg
    dsimp only at hg
    split at hg
    · exact ⟨_, _, rfl, Try.func37, ck0⟩
    · exact ⟨_, _, rfl, Try.func38, ck1⟩
    · exact ⟨_, _, rfl, Try.func46, ck2⟩
    · exact ⟨_, _, rfl, Try.func47, ck3⟩
    · exact ⟨_, _, rfl, Try.func17, ck4⟩
    · exact ⟨_, _, rfl, Try.func19, ck5⟩
    · exact ⟨_, _, rfl, Try.func18, ck6⟩
    · exact ⟨_, _, rfl, Try.func21, ck7⟩
    · exact ⟨_, _, rfl, Try.func22, ck9⟩
    · exact ⟨_, _, rfl, Try.func34, ck10⟩
    · exact ⟨_, _, rfl, Try.func36, ck11⟩
    · exact ⟨_, _, rfl, Try.func40, ck12⟩
    · exact ⟨_, _, rfl, Try.func49, ck13⟩
    · exact ⟨_, _, rfl, Try.func48, ck14⟩
    · exact ⟨_, _, rfl, Try.func45, ck15⟩
    · exact ⟨_, _, rfl, Try.func44, ck16⟩
    · exact ⟨_, _, rfl, Try.func11, ck26⟩
    · exact ⟨_, _, rfl, Try.func14, ck27⟩
    · exact ⟨_, _, rfl, Try.func27, ck152⟩
    · exact ⟨_, _, rfl, Try.func28, ck153⟩
    · exact ⟨_, _, rfl, Try.func9, ck154⟩
    · exact ⟨_, _, rfl, Try.func20, ck155⟩
    · exact ⟨_, _, rfl, Try.func7, ck156⟩
    · exact ⟨_, _, rfl, Try.func42, ck157⟩
    · exact ⟨_, _, rfl, Try.func41, ck158⟩
    · exact ⟨_, _, rfl, Try.func39, ck159⟩
    · exact ⟨_, _, rfl, Try.func43, ck160⟩
    · exact ⟨_, _, rfl, Try.func35, ck161⟩
    · exact ⟨_, _, rfl, Try.func33, ck162⟩
    · exact ⟨_, _, rfl, Try.func15, ck163⟩
    · exact ⟨_, _, rfl, Try.func31, ck164⟩
    · exact ⟨_, _, rfl, Try.func32, ck165⟩
    · exact ⟨_, _, rfl, Try.func12, ck166⟩
    · exact ⟨_, _, rfl, Try.func13, ck167⟩
    · exact ⟨_, _, rfl, Try.func4, ck176⟩
    · cases hg
end Go.Proofs.Ytnpdnkmnnmmagaa
