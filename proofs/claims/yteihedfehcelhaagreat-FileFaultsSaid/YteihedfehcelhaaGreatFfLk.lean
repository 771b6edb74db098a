/- The link between the abstract program and this seat's translation: every function's text is the translation's, checked by the kernel. Conditions: none. -/
import Derived.Test.YteihedfehcelhaaGreatFf1
import Derived.Test.YteihedfehcelhaaGreatFf2
import Derived.Test.YteihedfehcelhaaGreatFf3
import Derived.Test.YteihedfehcelhaaGreatFf4
import Derived.Test.YteihedfehcelhaaGreatFf5
import Derived.Test.YteihedfehcelhaaGreatFf6
import Derived.Test.YteihedfehcelhaaGreatFf7
import Derived.Test.YteihedfehcelhaaGreatRows
import Derived.KernelRfl
set_option linter.all false
namespace Go.Proofs.YteihedfehcelhaaGreat
open Go.Ab
noncomputable def lk : Lk where
  φ := fun g => match g with
    | 0 => 65
    | 1 => 66
    | 2 => 78
    | 3 => 115
    | 4 => 37
    | 5 => 39
    | 6 => 38
    | 7 => 41
    | 9 => 42
    | 10 => 57
    | 11 => 60
    | 12 => 58
    | 13 => 80
    | 14 => 79
    | 15 => 59
    | 16 => 165
    | 17 => 43
    | 18 => 22
    | 21 => 45
    | 26 => 9
    | 27 => 18
    | 29 => 13
    | 112 => 114
    | 152 => 33
    | 153 => 34
    | 154 => 19
    | 155 => 40
    | 156 => 21
    | 157 => 163
    | 158 => 162
    | 159 => 161
    | 160 => 164
    | 161 => 117
    | 162 => 116
    | 163 => 82
    | 164 => 46
    | 165 => 47
    | 166 => 24
    | 168 => 52
    | 169 => 51
    | 170 => 26
    | 171 => 44
    | 172 => 23
    | 173 => 17
    | 174 => 6
    | 185 => 50
    | 199 => 25
    | 200 => 7
    | 201 => 11
    | 202 => 20
    | 203 => 48
    | 204 => 28
    | 205 => 36
    | 206 => 35
    | 207 => 55
    | 208 => 32
    | 211 => 49
    | 212 => 31
    | 213 => 30
    | 214 => 56
    | 215 => 61
    | 216 => 68
    | 217 => 77
    | 218 => 76
    | 219 => 63
    | 220 => 64
    | 221 => 62
    | 222 => 110
    | 223 => 104
    | 224 => 113
    | 225 => 81
    | 226 => 160
    | 227 => 12
    | 228 => 8
    | 229 => 27
    | 230 => 54
    | 231 => 53
    | 233 => 5
    | 235 => 29
    | 236 => 16
    | 238 => 15
    | 239 => 14
    | 240 => 4
    | _ => 0
  τ := fun t => match t with
    | 0 => 202
    | 1 => 107
    | _ => 0
  dom := fun g => match g with
    | 0 => true
    | 1 => true
    | 2 => true
    | 3 => true
    | 4 => true
    | 5 => true
    | 6 => true
    | 7 => true
    | 9 => true
    | 10 => true
    | 11 => true
    | 12 => true
    | 13 => true
    | 14 => true
    | 15 => true
    | 16 => true
    | 17 => true
    | 18 => true
    | 21 => true
    | 26 => true
    | 27 => true
    | 29 => true
    | 112 => true
    | 152 => true
    | 153 => true
    | 154 => true
    | 155 => true
    | 156 => true
    | 157 => true
    | 158 => true
    | 159 => true
    | 160 => true
    | 161 => true
    | 162 => true
    | 163 => true
    | 164 => true
    | 165 => true
    | 166 => true
    | 168 => true
    | 169 => true
    | 170 => true
    | 171 => true
    | 172 => true
    | 173 => true
    | 174 => true
    | 185 => true
    | 199 => true
    | 200 => true
    | 201 => true
    | 202 => true
    | 203 => true
    | 204 => true
    | 205 => true
    | 206 => true
    | 207 => true
    | 208 => true
    | 211 => true
    | 212 => true
    | 213 => true
    | 214 => true
    | 215 => true
    | 216 => true
    | 217 => true
    | 218 => true
    | 219 => true
    | 220 => true
    | 221 => true
    | 222 => true
    | 223 => true
    | 224 => true
    | 225 => true
    | 226 => true
    | 227 => true
    | 228 => true
    | 229 => true
    | 230 => true
    | 231 => true
    | 233 => true
    | 235 => true
    | 236 => true
    | 238 => true
    | 239 => true
    | 240 => true
    | _ => false
  ρ := fun y => if y = 209 then rngRho file_Read_1 Tryz.f48 209 else if y = 237 then rngRho file_Segments_1 Tryz.f29 237 else none
  sh := fun y => y == 210
def prog0 : Prog := fun g => match g with
    | 209 => some file_Read_1_rng
    | 237 => some file_Segments_1_rng
    | 210 => some cdShut
    | 0 => some bits_lay_uint8
    | 1 => some bits_lay_uint64
    | 2 => some bits_told_uint64
    | 3 => some bits_told_uint8
    | 4 => some bits_NewWriter
    | 5 => some bits_Writer_Put
    | 6 => some bits_Writer_Var
    | 7 => some bits_Writer_Align
    | 9 => some bits_Writer_Bytes
    | 10 => some bits_NewReader
    | 11 => some bits_Reader_Left
    | 12 => some bits_Reader_Take
    | 13 => some bits_Reader_group
    | 14 => some bits_Reader_Var_1
    | 15 => some bits_Reader_Var
    | 16 => some bits_Reader_Align
    | 17 => some burinref1_Writer_Put
    | 18 => some burinref1_Groups
    | 21 => some burinref1_Writer_Bytes
    | 26 => some burinref0_Eq
    | 27 => some burinref0_Copy
    | 29 => some burinkit_Within
    | 112 => some math_bits_Len64
    | 152 => some segment_allowed
    | 153 => some segment_rule_paged
    | 154 => some segment_Check
    | 155 => some segment_flag
    | 156 => some segment_Encode
    | 157 => some segment_wrong
    | 158 => some segment_need
    | 159 => some segment_reader_number
    | 160 => some segment_reader_flag
    | 161 => some segment_reader_head
    | 162 => some segment_Decode_1
    | 163 => some segment_Decode
    | 164 => some burinref0_EqInts
    | 165 => some burinref0_EqFlags
    | 166 => some burinref0_EqSegment
    | 168 => some burinref16_refers
    | 169 => some burinref16_paged
    | 170 => some burinref16_May
    | 171 => some burinref16_bit
    | 172 => some burinref16_Encode
    | 173 => some burinref0_CopyInts
    | 174 => some burinref0_CopySegments
    | 185 => some slices_Sort_int_int
    | 199 => some file_Read
    | 200 => some file_Write
    | 201 => some burinlaw17_wakes
    | 202 => some file_order_step
    | 203 => some file_Read_1
    | 204 => some file_caught
    | 205 => some file_order_let
    | 206 => some file_order_may
    | 207 => some file_caught_1
    | 208 => some file_reader_ended
    | 211 => some file_pages_take
    | 212 => some file_reader_segments
    | 213 => some file_opened
    | 214 => some file_wrong
    | 215 => some file_reader_segments_1
    | 216 => some file_need
    | 217 => some math_bits_Len
    | 218 => some slices_pdqsortOrdered_int
    | 219 => some file_reader_data
    | 220 => some file_reader_header
    | 221 => some file_reader_headers
    | 222 => some cmp_Less_int
    | 223 => some slices_insertionSortOrdered_int
    | 224 => some math_bits_Len32
    | 225 => some slices_Clone_byte_byte
    | 226 => some cmp_isNaN_int
    | 227 => some burinref17_Ordered
    | 228 => some burinref17_Write
    | 229 => some burinref17_order_come
    | 230 => some burinref17_has
    | 231 => some burinref17_order_place
    | 233 => some burinlaw17_light
    | 235 => some file_Segments_1
    | 236 => some file_Segments
    | 238 => some burinlaw17_bytes
    | 239 => some burinlaw17_has
    | 240 => some burinlaw17_FileFaults
    | 8 => some bits_Writer_Len
    | 19 => some burinref1_Writer_Var
    | 20 => some burinref1_Writer_Align
    | 22 => some burinref1_Reader_Left
    | 23 => some burinref1_Reader_Take
    | 24 => some burinref1_Reader_Var
    | 25 => some burinref1_Reader_Align
    | 28 => some burinkit_Over
    | 30 => some burinkit_Lend
    | 31 => some burinkit_Back
    | 167 => some burinlaw16_wakes
    | _ => none
theorem ck0 : ckFun lk Tryz.prog bits_lay_uint8 Tryz.f65 = true := by kernel_rfl
theorem ck1 : ckFun lk Tryz.prog bits_lay_uint64 Tryz.f66 = true := by kernel_rfl
theorem ck2 : ckFun lk Tryz.prog bits_told_uint64 Tryz.f78 = true := by kernel_rfl
theorem ck3 : ckFun lk Tryz.prog bits_told_uint8 Tryz.f115 = true := by kernel_rfl
theorem ck4 : ckFun lk Tryz.prog bits_NewWriter Tryz.f37 = true := by kernel_rfl
theorem ck5 : ckFun lk Tryz.prog bits_Writer_Put Tryz.f39 = true := by kernel_rfl
theorem ck6 : ckFun lk Tryz.prog bits_Writer_Var Tryz.f38 = true := by kernel_rfl
theorem ck7 : ckFun lk Tryz.prog bits_Writer_Align Tryz.f41 = true := by kernel_rfl
theorem ck9 : ckFun lk Tryz.prog bits_Writer_Bytes Tryz.f42 = true := by kernel_rfl
theorem ck10 : ckFun lk Tryz.prog bits_NewReader Tryz.f57 = true := by kernel_rfl
theorem ck11 : ckFun lk Tryz.prog bits_Reader_Left Tryz.f60 = true := by kernel_rfl
theorem ck12 : ckFun lk Tryz.prog bits_Reader_Take Tryz.f58 = true := by kernel_rfl
theorem ck13 : ckFun lk Tryz.prog bits_Reader_group Tryz.f80 = true := by kernel_rfl
theorem ck14 : ckFun lk Tryz.prog bits_Reader_Var_1 Tryz.f79 = true := by kernel_rfl
theorem ck15 : ckFun lk Tryz.prog bits_Reader_Var Tryz.f59 = true := by kernel_rfl
theorem ck16 : ckFun lk Tryz.prog bits_Reader_Align Tryz.f165 = true := by kernel_rfl
theorem ck17 : ckFun lk Tryz.prog burinref1_Writer_Put Tryz.f43 = true := by kernel_rfl
theorem ck18 : ckFun lk Tryz.prog burinref1_Groups Tryz.f22 = true := by kernel_rfl
theorem ck21 : ckFun lk Tryz.prog burinref1_Writer_Bytes Tryz.f45 = true := by kernel_rfl
theorem ck26 : ckFun lk Tryz.prog burinref0_Eq Tryz.f9 = true := by kernel_rfl
theorem ck27 : ckFun lk Tryz.prog burinref0_Copy Tryz.f18 = true := by kernel_rfl
theorem ck29 : ckFun lk Tryz.prog burinkit_Within Tryz.f13 = true := by kernel_rfl
theorem ck112 : ckFun lk Tryz.prog math_bits_Len64 Tryz.f114 = true := by kernel_rfl
theorem ck152 : ckFun lk Tryz.prog segment_allowed Tryz.f33 = true := by kernel_rfl
theorem ck153 : ckFun lk Tryz.prog segment_rule_paged Tryz.f34 = true := by kernel_rfl
theorem ck154 : ckFun lk Tryz.prog segment_Check Tryz.f19 = true := by kernel_rfl
theorem ck155 : ckFun lk Tryz.prog segment_flag Tryz.f40 = true := by kernel_rfl
theorem ck156 : ckFun lk Tryz.prog segment_Encode Tryz.f21 = true := by kernel_rfl
theorem ck157 : ckFun lk Tryz.prog segment_wrong Tryz.f163 = true := by kernel_rfl
theorem ck158 : ckFun lk Tryz.prog segment_need Tryz.f162 = true := by kernel_rfl
theorem ck159 : ckFun lk Tryz.prog segment_reader_number Tryz.f161 = true := by kernel_rfl
theorem ck160 : ckFun lk Tryz.prog segment_reader_flag Tryz.f164 = true := by kernel_rfl
theorem ck161 : ckFun lk Tryz.prog segment_reader_head Tryz.f117 = true := by kernel_rfl
theorem ck162 : ckFun lk Tryz.prog segment_Decode_1 Tryz.f116 = true := by kernel_rfl
theorem ck163 : ckFun lk Tryz.prog segment_Decode Tryz.f82 = true := by kernel_rfl
theorem ck164 : ckFun lk Tryz.prog burinref0_EqInts Tryz.f46 = true := by kernel_rfl
theorem ck165 : ckFun lk Tryz.prog burinref0_EqFlags Tryz.f47 = true := by kernel_rfl
theorem ck166 : ckFun lk Tryz.prog burinref0_EqSegment Tryz.f24 = true := by kernel_rfl
theorem ck168 : ckFun lk Tryz.prog burinref16_refers Tryz.f52 = true := by kernel_rfl
theorem ck169 : ckFun lk Tryz.prog burinref16_paged Tryz.f51 = true := by kernel_rfl
theorem ck170 : ckFun lk Tryz.prog burinref16_May Tryz.f26 = true := by kernel_rfl
theorem ck171 : ckFun lk Tryz.prog burinref16_bit Tryz.f44 = true := by kernel_rfl
theorem ck172 : ckFun lk Tryz.prog burinref16_Encode Tryz.f23 = true := by kernel_rfl
theorem ck173 : ckFun lk Tryz.prog burinref0_CopyInts Tryz.f17 = true := by kernel_rfl
theorem ck174 : ckFun lk Tryz.prog burinref0_CopySegments Tryz.f6 = true := by kernel_rfl
theorem ck185 : ckFun lk Tryz.prog slices_Sort_int_int Tryz.f50 = true := by kernel_rfl
theorem ck199 : ckFun lk Tryz.prog file_Read Tryz.f25 = true := by kernel_rfl
theorem ck200 : ckFun lk Tryz.prog file_Write Tryz.f7 = true := by kernel_rfl
theorem ck201 : ckFun lk Tryz.prog burinlaw17_wakes Tryz.f11 = true := by kernel_rfl
theorem ck202 : ckFun lk Tryz.prog file_order_step Tryz.f20 = true := by kernel_rfl
theorem ck203 : ckFun lk Tryz.prog file_Read_1 Tryz.f48 true = true := by kernel_rfl
theorem cy203 : rngYs file_Read_1 Tryz.f48 = [209] := by kernel_rfl
theorem cr203 : ckRnd lk Tryz.prog 209 (prog0 209) (lk.ρ 209) = true := by kernel_rfl
theorem ck204 : ckFun lk Tryz.prog file_caught Tryz.f28 = true := by kernel_rfl
theorem ck205 : ckFun lk Tryz.prog file_order_let Tryz.f36 = true := by kernel_rfl
theorem ck206 : ckFun lk Tryz.prog file_order_may Tryz.f35 = true := by kernel_rfl
theorem ck207 : ckFun lk Tryz.prog file_caught_1 Tryz.f55 = true := by kernel_rfl
theorem ck208 : ckFun lk Tryz.prog file_reader_ended Tryz.f32 = true := by kernel_rfl
theorem ck211 : ckFun lk Tryz.prog file_pages_take Tryz.f49 = true := by kernel_rfl
theorem ck212 : ckFun lk Tryz.prog file_reader_segments Tryz.f31 = true := by kernel_rfl
theorem ck213 : ckFun lk Tryz.prog file_opened Tryz.f30 = true := by kernel_rfl
theorem ck214 : ckFun lk Tryz.prog file_wrong Tryz.f56 = true := by kernel_rfl
theorem ck215 : ckFun lk Tryz.prog file_reader_segments_1 Tryz.f61 = true := by kernel_rfl
theorem ck216 : ckFun lk Tryz.prog file_need Tryz.f68 = true := by kernel_rfl
theorem ck217 : ckFun lk Tryz.prog math_bits_Len Tryz.f77 = true := by kernel_rfl
theorem ck218 : ckFun lk Tryz.prog slices_pdqsortOrdered_int Tryz.f76 = true := by kernel_rfl
theorem ck219 : ckFun lk Tryz.prog file_reader_data Tryz.f63 = true := by kernel_rfl
theorem ck220 : ckFun lk Tryz.prog file_reader_header Tryz.f64 = true := by kernel_rfl
theorem ck221 : ckFun lk Tryz.prog file_reader_headers Tryz.f62 = true := by kernel_rfl
theorem ck222 : ckFun lk Tryz.prog cmp_Less_int Tryz.f110 = true := by kernel_rfl
theorem ck223 : ckFun lk Tryz.prog slices_insertionSortOrdered_int Tryz.f104 = true := by kernel_rfl
theorem ck224 : ckFun lk Tryz.prog math_bits_Len32 Tryz.f113 = true := by kernel_rfl
theorem ck225 : ckFun lk Tryz.prog slices_Clone_byte_byte Tryz.f81 = true := by kernel_rfl
theorem ck226 : ckFun lk Tryz.prog cmp_isNaN_int Tryz.f160 = true := by kernel_rfl
theorem ck227 : ckFun lk Tryz.prog burinref17_Ordered Tryz.f12 = true := by kernel_rfl
theorem ck228 : ckFun lk Tryz.prog burinref17_Write Tryz.f8 = true := by kernel_rfl
theorem ck229 : ckFun lk Tryz.prog burinref17_order_come Tryz.f27 = true := by kernel_rfl
theorem ck230 : ckFun lk Tryz.prog burinref17_has Tryz.f54 = true := by kernel_rfl
theorem ck231 : ckFun lk Tryz.prog burinref17_order_place Tryz.f53 = true := by kernel_rfl
theorem ck233 : ckFun lk Tryz.prog burinlaw17_light Tryz.f5 = true := by kernel_rfl
theorem ck235 : ckFun lk Tryz.prog file_Segments_1 Tryz.f29 true = true := by kernel_rfl
theorem cy235 : rngYs file_Segments_1 Tryz.f29 = [237] := by kernel_rfl
theorem cr235 : ckRnd lk Tryz.prog 237 (prog0 237) (lk.ρ 237) = true := by kernel_rfl
theorem ck236 : ckFun lk Tryz.prog file_Segments Tryz.f16 = true := by kernel_rfl
theorem ck238 : ckFun lk Tryz.prog burinlaw17_bytes Tryz.f15 = true := by kernel_rfl
theorem ck239 : ckFun lk Tryz.prog burinlaw17_has Tryz.f14 = true := by kernel_rfl
theorem ck240 : ckFun lk Tryz.prog burinlaw17_FileFaults Tryz.f4 = true := by kernel_rfl
theorem linked0 : Linked lk Tryz.prog prog0 where
  mixed := by kernel_rfl
  fn := fun g hg => by
    unfold lk at hg
    dsimp only at hg
    split at hg
    · exact ⟨_, _, rfl, Tryz.func65, .text ck0⟩
    · exact ⟨_, _, rfl, Tryz.func66, .text ck1⟩
    · exact ⟨_, _, rfl, Tryz.func78, .text ck2⟩
    · exact ⟨_, _, rfl, Tryz.func115, .text ck3⟩
    · exact ⟨_, _, rfl, Tryz.func37, .text ck4⟩
    · exact ⟨_, _, rfl, Tryz.func39, .text ck5⟩
    · exact ⟨_, _, rfl, Tryz.func38, .text ck6⟩
    · exact ⟨_, _, rfl, Tryz.func41, .text ck7⟩
    · exact ⟨_, _, rfl, Tryz.func42, .text ck9⟩
    · exact ⟨_, _, rfl, Tryz.func57, .text ck10⟩
    · exact ⟨_, _, rfl, Tryz.func60, .text ck11⟩
    · exact ⟨_, _, rfl, Tryz.func58, .text ck12⟩
    · exact ⟨_, _, rfl, Tryz.func80, .text ck13⟩
    · exact ⟨_, _, rfl, Tryz.func79, .text ck14⟩
    · exact ⟨_, _, rfl, Tryz.func59, .text ck15⟩
    · exact ⟨_, _, rfl, Tryz.func165, .text ck16⟩
    · exact ⟨_, _, rfl, Tryz.func43, .text ck17⟩
    · exact ⟨_, _, rfl, Tryz.func22, .text ck18⟩
    · exact ⟨_, _, rfl, Tryz.func45, .text ck21⟩
    · exact ⟨_, _, rfl, Tryz.func9, .text ck26⟩
    · exact ⟨_, _, rfl, Tryz.func18, .text ck27⟩
    · exact ⟨_, _, rfl, Tryz.func13, .text ck29⟩
    · exact ⟨_, _, rfl, Tryz.func114, .text ck112⟩
    · exact ⟨_, _, rfl, Tryz.func33, .text ck152⟩
    · exact ⟨_, _, rfl, Tryz.func34, .text ck153⟩
    · exact ⟨_, _, rfl, Tryz.func19, .text ck154⟩
    · exact ⟨_, _, rfl, Tryz.func40, .text ck155⟩
    · exact ⟨_, _, rfl, Tryz.func21, .text ck156⟩
    · exact ⟨_, _, rfl, Tryz.func163, .text ck157⟩
    · exact ⟨_, _, rfl, Tryz.func162, .text ck158⟩
    · exact ⟨_, _, rfl, Tryz.func161, .text ck159⟩
    · exact ⟨_, _, rfl, Tryz.func164, .text ck160⟩
    · exact ⟨_, _, rfl, Tryz.func117, .text ck161⟩
    · exact ⟨_, _, rfl, Tryz.func116, .text ck162⟩
    · exact ⟨_, _, rfl, Tryz.func82, .text ck163⟩
    · exact ⟨_, _, rfl, Tryz.func46, .text ck164⟩
    · exact ⟨_, _, rfl, Tryz.func47, .text ck165⟩
    · exact ⟨_, _, rfl, Tryz.func24, .text ck166⟩
    · exact ⟨_, _, rfl, Tryz.func52, .text ck168⟩
    · exact ⟨_, _, rfl, Tryz.func51, .text ck169⟩
    · exact ⟨_, _, rfl, Tryz.func26, .text ck170⟩
    · exact ⟨_, _, rfl, Tryz.func44, .text ck171⟩
    · exact ⟨_, _, rfl, Tryz.func23, .text ck172⟩
    · exact ⟨_, _, rfl, Tryz.func17, .text ck173⟩
    · exact ⟨_, _, rfl, Tryz.func6, .text ck174⟩
    · exact ⟨_, _, rfl, Tryz.func50, .text ck185⟩
    · exact ⟨_, _, rfl, Tryz.func25, .text ck199⟩
    · exact ⟨_, _, rfl, Tryz.func7, .text ck200⟩
    · exact ⟨_, _, rfl, Tryz.func11, .text ck201⟩
    · exact ⟨_, _, rfl, Tryz.func20, .text ck202⟩
    · exact ⟨_, _, rfl, Tryz.func48, .ranges ck203 cy203 rfl rfl⟩
    · exact ⟨_, _, rfl, Tryz.func28, .text ck204⟩
    · exact ⟨_, _, rfl, Tryz.func36, .text ck205⟩
    · exact ⟨_, _, rfl, Tryz.func35, .text ck206⟩
    · exact ⟨_, _, rfl, Tryz.func55, .text ck207⟩
    · exact ⟨_, _, rfl, Tryz.func32, .text ck208⟩
    · exact ⟨_, _, rfl, Tryz.func49, .text ck211⟩
    · exact ⟨_, _, rfl, Tryz.func31, .text ck212⟩
    · exact ⟨_, _, rfl, Tryz.func30, .text ck213⟩
    · exact ⟨_, _, rfl, Tryz.func56, .text ck214⟩
    · exact ⟨_, _, rfl, Tryz.func61, .text ck215⟩
    · exact ⟨_, _, rfl, Tryz.func68, .text ck216⟩
    · exact ⟨_, _, rfl, Tryz.func77, .text ck217⟩
    · exact ⟨_, _, rfl, Tryz.func76, .text ck218⟩
    · exact ⟨_, _, rfl, Tryz.func63, .text ck219⟩
    · exact ⟨_, _, rfl, Tryz.func64, .text ck220⟩
    · exact ⟨_, _, rfl, Tryz.func62, .text ck221⟩
    · exact ⟨_, _, rfl, Tryz.func110, .text ck222⟩
    · exact ⟨_, _, rfl, Tryz.func104, .text ck223⟩
    · exact ⟨_, _, rfl, Tryz.func113, .text ck224⟩
    · exact ⟨_, _, rfl, Tryz.func81, .text ck225⟩
    · exact ⟨_, _, rfl, Tryz.func160, .text ck226⟩
    · exact ⟨_, _, rfl, Tryz.func12, .text ck227⟩
    · exact ⟨_, _, rfl, Tryz.func8, .text ck228⟩
    · exact ⟨_, _, rfl, Tryz.func27, .text ck229⟩
    · exact ⟨_, _, rfl, Tryz.func54, .text ck230⟩
    · exact ⟨_, _, rfl, Tryz.func53, .text ck231⟩
    · exact ⟨_, _, rfl, Tryz.func5, .text ck233⟩
    · exact ⟨_, _, rfl, Tryz.func29, .ranges ck235 cy235 rfl rfl⟩
    · exact ⟨_, _, rfl, Tryz.func16, .text ck236⟩
    · exact ⟨_, _, rfl, Tryz.func15, .text ck238⟩
    · exact ⟨_, _, rfl, Tryz.func14, .text ck239⟩
    · exact ⟨_, _, rfl, Tryz.func4, .text ck240⟩
    · cases hg
  rds := fun y => by
    by_cases e0 : y = 209
    · subst e0; exact .inr cr203
    by_cases e1 : y = 237
    · subst e1; exact .inr cr235
    exact .inl (by unfold lk; dsimp only; rw [if_neg e0, if_neg e1])
  sht := fun g h => by
    have e : g = 210 := by simpa [lk] using h
    subst e; rfl
theorem ran : runB prog0 4000 201 = some (.bool true) := by kernel_rfl
def prog : Prog := closeP prog0 201
theorem linked : Linked lk Tryz.prog prog := linked0.close (g := 201) rfl (closed_true linked0 rfl rfl (fun _ => rfl) (run_call ran))
end Go.Proofs.YteihedfehcelhaaGreat
