/- The link between the abstract program and this seat's translation: every function's text is the translation's, checked by the kernel. Conditions: none. -/
import Derived.Test.YtnpdnkmnnmmagaaK3
import Derived.Test.YtnpdnkmnnmmagaaPBits
import Derived.Test.YtnpdnkmnnmmagaaPSeg
import Derived.Test.YtnpdnkmnnmmagaaPKit
import Derived.Test.YtnpdnkmnnmmagaaPRf16
import Derived.Test.YtnpdnkmnnmmagaaPRefBits
import Derived.Test.YtnpdnkmnnmmagaaPL16Encodes
import Derived.Test.YtnpdnkmnnmmagaaPKitW
import Derived.Test.YtnpdnkmnnmmagaaRows
import Derived.KernelRfl
set_option linter.all false
namespace Go.Proofs.Ytnpdnkmnnmmagaa
open Go.Ab
def lk : Lk where
  φ := fun g => match g with
    | 0 => 37
    | 1 => 38
    | 2 => 46
    | 3 => 47
    | 4 => 17
    | 5 => 19
    | 6 => 18
    | 7 => 21
    | 9 => 22
    | 10 => 34
    | 11 => 36
    | 12 => 40
    | 13 => 49
    | 14 => 48
    | 15 => 45
    | 16 => 44
    | 17 => 24
    | 18 => 23
    | 21 => 26
    | 26 => 11
    | 27 => 14
    | 152 => 27
    | 153 => 28
    | 154 => 9
    | 155 => 20
    | 156 => 7
    | 157 => 42
    | 158 => 41
    | 159 => 39
    | 160 => 43
    | 161 => 35
    | 162 => 33
    | 163 => 15
    | 164 => 31
    | 165 => 32
    | 166 => 12
    | 167 => 13
    | 168 => 30
    | 169 => 29
    | 170 => 10
    | 171 => 25
    | 172 => 8
    | 173 => 16
    | 174 => 6
    | 175 => 3
    | _ => 0
  τ := fun t => match t with
    | 0 => 70
    | _ => 0
  dom := fun g => match g with
    | 0 => true
    | 1 => true
    | 2 => true
    | 3 => true
    | 4 => true
    | 5 => true
    | 6 => true
    | 7 => true
    | 9 => true
    | 10 => true
    | 11 => true
    | 12 => true
    | 13 => true
    | 14 => true
    | 15 => true
    | 16 => true
    | 17 => true
    | 18 => true
    | 21 => true
    | 26 => true
    | 27 => true
    | 152 => true
    | 153 => true
    | 154 => true
    | 155 => true
    | 156 => true
    | 157 => true
    | 158 => true
    | 159 => true
    | 160 => true
    | 161 => true
    | 162 => true
    | 163 => true
    | 164 => true
    | 165 => true
    | 166 => true
    | 167 => true
    | 168 => true
    | 169 => true
    | 170 => true
    | 171 => true
    | 172 => true
    | 173 => true
    | 174 => true
    | 175 => true
    | _ => false
def prog : Prog := fun g => match g with
    | 0 => some bits_lay_uint8
    | 1 => some bits_lay_uint64
    | 2 => some bits_told_uint64
    | 3 => some bits_told_uint8
    | 4 => some bits_NewWriter
    | 5 => some bits_Writer_Put
    | 6 => some bits_Writer_Var
    | 7 => some bits_Writer_Align
    | 9 => some bits_Writer_Bytes
    | 10 => some bits_NewReader
    | 11 => some bits_Reader_Left
    | 12 => some bits_Reader_Take
    | 13 => some bits_Reader_group
    | 14 => some bits_Reader_Var_1
    | 15 => some bits_Reader_Var
    | 16 => some bits_Reader_Align
    | 17 => some burinref1_Writer_Put
    | 18 => some burinref1_Groups
    | 21 => some burinref1_Writer_Bytes
    | 26 => some burinref0_Eq
    | 27 => some burinref0_Copy
    | 152 => some segment_allowed
    | 153 => some segment_rule_paged
    | 154 => some segment_Check
    | 155 => some segment_flag
    | 156 => some segment_Encode
    | 157 => some segment_wrong
    | 158 => some segment_need
    | 159 => some segment_reader_number
    | 160 => some segment_reader_flag
    | 161 => some segment_reader_head
    | 162 => some segment_Decode_1
    | 163 => some segment_Decode
    | 164 => some burinref0_EqInts
    | 165 => some burinref0_EqFlags
    | 166 => some burinref0_EqSegment
    | 167 => some burinlaw16_wakes
    | 168 => some burinref16_refers
    | 169 => some burinref16_paged
    | 170 => some burinref16_May
    | 171 => some burinref16_bit
    | 172 => some burinref16_Encode
    | 173 => some burinref0_CopyInts
    | 174 => some burinref0_CopySegments
    | 175 => some burinlaw16_SegmentEncodes
    | 8 => some bits_Writer_Len
    | 19 => some burinref1_Writer_Var
    | 20 => some burinref1_Writer_Align
    | 22 => some burinref1_Reader_Left
    | 23 => some burinref1_Reader_Take
    | 24 => some burinref1_Reader_Var
    | 25 => some burinref1_Reader_Align
    | 28 => some burinkit_Over
    | 29 => some burinkit_Within
    | 30 => some burinkit_Lend
    | 31 => some burinkit_Back
    | _ => none
theorem ck0 : ckFun lk Try.prog bits_lay_uint8 Try.f37 = true := by kernel_rfl
theorem ck1 : ckFun lk Try.prog bits_lay_uint64 Try.f38 = true := by kernel_rfl
theorem ck2 : ckFun lk Try.prog bits_told_uint64 Try.f46 = true := by kernel_rfl
theorem ck3 : ckFun lk Try.prog bits_told_uint8 Try.f47 = true := by kernel_rfl
theorem ck4 : ckFun lk Try.prog bits_NewWriter Try.f17 = true := by kernel_rfl
theorem ck5 : ckFun lk Try.prog bits_Writer_Put Try.f19 = true := by kernel_rfl
theorem ck6 : ckFun lk Try.prog bits_Writer_Var Try.f18 = true := by kernel_rfl
theorem ck7 : ckFun lk Try.prog bits_Writer_Align Try.f21 = true := by kernel_rfl
theorem ck9 : ckFun lk Try.prog bits_Writer_Bytes Try.f22 = true := by kernel_rfl
theorem ck10 : ckFun lk Try.prog bits_NewReader Try.f34 = true := by kernel_rfl
theorem ck11 : ckFun lk Try.prog bits_Reader_Left Try.f36 = true := by kernel_rfl
theorem ck12 : ckFun lk Try.prog bits_Reader_Take Try.f40 = true := by kernel_rfl
theorem ck13 : ckFun lk Try.prog bits_Reader_group Try.f49 = true := by kernel_rfl
theorem ck14 : ckFun lk Try.prog bits_Reader_Var_1 Try.f48 = true := by kernel_rfl
theorem ck15 : ckFun lk Try.prog bits_Reader_Var Try.f45 = true := by kernel_rfl
theorem ck16 : ckFun lk Try.prog bits_Reader_Align Try.f44 = true := by kernel_rfl
theorem ck17 : ckFun lk Try.prog burinref1_Writer_Put Try.f24 = true := by kernel_rfl
theorem ck18 : ckFun lk Try.prog burinref1_Groups Try.f23 = true := by kernel_rfl
theorem ck21 : ckFun lk Try.prog burinref1_Writer_Bytes Try.f26 = true := by kernel_rfl
theorem ck26 : ckFun lk Try.prog burinref0_Eq Try.f11 = true := by kernel_rfl
theorem ck27 : ckFun lk Try.prog burinref0_Copy Try.f14 = true := by kernel_rfl
theorem ck152 : ckFun lk Try.prog segment_allowed Try.f27 = true := by kernel_rfl
theorem ck153 : ckFun lk Try.prog segment_rule_paged Try.f28 = true := by kernel_rfl
theorem ck154 : ckFun lk Try.prog segment_Check Try.f9 = true := by kernel_rfl
theorem ck155 : ckFun lk Try.prog segment_flag Try.f20 = true := by kernel_rfl
theorem ck156 : ckFun lk Try.prog segment_Encode Try.f7 = true := by kernel_rfl
theorem ck157 : ckFun lk Try.prog segment_wrong Try.f42 = true := by kernel_rfl
theorem ck158 : ckFun lk Try.prog segment_need Try.f41 = true := by kernel_rfl
theorem ck159 : ckFun lk Try.prog segment_reader_number Try.f39 = true := by kernel_rfl
theorem ck160 : ckFun lk Try.prog segment_reader_flag Try.f43 = true := by kernel_rfl
theorem ck161 : ckFun lk Try.prog segment_reader_head Try.f35 = true := by kernel_rfl
theorem ck162 : ckFun lk Try.prog segment_Decode_1 Try.f33 = true := by kernel_rfl
theorem ck163 : ckFun lk Try.prog segment_Decode Try.f15 = true := by kernel_rfl
theorem ck164 : ckFun lk Try.prog burinref0_EqInts Try.f31 = true := by kernel_rfl
theorem ck165 : ckFun lk Try.prog burinref0_EqFlags Try.f32 = true := by kernel_rfl
theorem ck166 : ckFun lk Try.prog burinref0_EqSegment Try.f12 = true := by kernel_rfl
theorem ck167 : ckFun lk Try.prog burinlaw16_wakes Try.f13 = true := by kernel_rfl
theorem ck168 : ckFun lk Try.prog burinref16_refers Try.f30 = true := by kernel_rfl
theorem ck169 : ckFun lk Try.prog burinref16_paged Try.f29 = true := by kernel_rfl
theorem ck170 : ckFun lk Try.prog burinref16_May Try.f10 = true := by kernel_rfl
theorem ck171 : ckFun lk Try.prog burinref16_bit Try.f25 = true := by kernel_rfl
theorem ck172 : ckFun lk Try.prog burinref16_Encode Try.f8 = true := by kernel_rfl
theorem ck173 : ckFun lk Try.prog burinref0_CopyInts Try.f16 = true := by kernel_rfl
theorem ck174 : ckFun lk Try.prog burinref0_CopySegments Try.f6 = true := by kernel_rfl
theorem ck175 : ckFun lk Try.prog burinlaw16_SegmentEncodes Try.f3 = true := by kernel_rfl
theorem linked : Linked lk Try.prog prog where
  mixed := by kernel_rfl
  fn := fun g hg => by
    unfold lk at hg
    dsimp only at hg
    split at hg
    · exact ⟨_, _, rfl, Try.func37, ck0⟩
    · exact ⟨_, _, rfl, Try.func38, ck1⟩
    · exact ⟨_, _, rfl, Try.func46, ck2⟩
    · exact ⟨_, _, rfl, Try.func47, ck3⟩
    · exact ⟨_, _, rfl, Try.func17, ck4⟩
    · exact ⟨_, _, rfl, Try.func19, ck5⟩
    · exact ⟨_, _, rfl, Try.func18, ck6⟩
    · exact ⟨_, _, rfl, Try.func21, ck7⟩
    · exact ⟨_, _, rfl, Try.func22, ck9⟩
    · exact ⟨_, _, rfl, Try.func34, ck10⟩
    · exact ⟨_, _, rfl, Try.func36, ck11⟩
    · exact ⟨_, _, rfl, Try.func40, ck12⟩
    · exact ⟨_, _, rfl, Try.func49, ck13⟩
    · exact ⟨_, _, rfl, Try.func48, ck14⟩
    · exact ⟨_, _, rfl, Try.func45, ck15⟩
    · exact ⟨_, _, rfl, Try.func44, ck16⟩
    · exact ⟨_, _, rfl, Try.func24, ck17⟩
    · exact ⟨_, _, rfl, Try.func23, ck18⟩
    · exact ⟨_, _, rfl, Try.func26, ck21⟩
    · exact ⟨_, _, rfl, Try.func11, ck26⟩
    · exact ⟨_, _, rfl, Try.func14, ck27⟩
    · exact ⟨_, _, rfl, Try.func27, ck152⟩
    · exact ⟨_, _, rfl, Try.func28, ck153⟩
    · exact ⟨_, _, rfl, Try.func9, ck154⟩
    · exact ⟨_, _, rfl, Try.func20, ck155⟩
    · exact ⟨_, _, rfl, Try.func7, ck156⟩
    · exact ⟨_, _, rfl, Try.func42, ck157⟩
    · exact ⟨_, _, rfl, Try.func41, ck158⟩
    · exact ⟨_, _, rfl, Try.func39, ck159⟩
    · exact ⟨_, _, rfl, Try.func43, ck160⟩
    · exact ⟨_, _, rfl, Try.func35, ck161⟩
    · exact ⟨_, _, rfl, Try.func33, ck162⟩
    · exact ⟨_, _, rfl, Try.func15, ck163⟩
    · exact ⟨_, _, rfl, Try.func31, ck164⟩
    · exact ⟨_, _, rfl, Try.func32, ck165⟩
    · exact ⟨_, _, rfl, Try.func12, ck166⟩
    · exact ⟨_, _, rfl, Try.func13, ck167⟩
    · exact ⟨_, _, rfl, Try.func30, ck168⟩
    · exact ⟨_, _, rfl, Try.func29, ck169⟩
    · exact ⟨_, _, rfl, Try.func10, ck170⟩
    · exact ⟨_, _, rfl, Try.func25, ck171⟩
    · exact ⟨_, _, rfl, Try.func8, ck172⟩
    · exact ⟨_, _, rfl, Try.func16, ck173⟩
    · exact ⟨_, _, rfl, Try.func6, ck174⟩
    · exact ⟨_, _, rfl, Try.func3, ck175⟩
    · cases hg
end Go.Proofs.Ytnpdnkmnnmmagaa
