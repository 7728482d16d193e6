/- Texts of one proof, one behind the other: each tells what it proves. -/
import Derived.Test.YtijldkknhphgcaaGreatCCheckGraph2
import Derived.Test.YtijldkknhphgcaaGreatProg
import Derived.Laws.BitsAllLaws
import Derived.Lib.Hide
import Derived.Laws.Slices

section
/- The types of the program as a table. No condition. -/
set_option maxRecDepth 100000
namespace Go.Proofs.YtijldkknhphgcaaGreat.Pv
def tbF:Nat → Option TI
 | 3=>some ⟨1,false,7,8,3,[],[.int .i64 0]⟩
 | 4=>some ⟨1,false,1,1,0,[],[.bool false]⟩
 | 5=>some ⟨1,false,7,1,4,[],[.int .u8 0]⟩
 | 9=>some ⟨1,false,6,16,0,[],[.string { data:=#[] }]⟩
 | 21=>some ⟨1,false,7,4,2,[],[.int .i32 0]⟩
 | 22=>some ⟨1,false,2,24,87,[],[.slice none 0 0]⟩
 | 23=>some ⟨1,false,2,24,111,[],[.slice none 0 0]⟩
 | 25=>some ⟨6,true,9,96,0,[(0,1,false),(1,1,false),(2,1,false),(3,1,false),(4,1,false),(5,1,false)],[.int .i64 0,.int .i64 0,.slice none 0 0,.slice none 0 0,.slice none 0 0,.int .i64 0]⟩
 | 27=>some ⟨1,false,2,24,3,[],[.slice none 0 0]⟩
 | 30=>some ⟨1,false,2,24,69,[],[.slice none 0 0]⟩
 | 31=>some ⟨1,false,2,24,73,[],[.slice none 0 0]⟩
 | 33=>some ⟨6,true,9,96,0,[(0,1,false),(1,1,false),(2,1,false),(3,1,false),(4,1,false),(5,1,false)],[.int .i64 0,.int .i64 0,.slice none 0 0,.slice none 0 0,.slice none 0 0,.int .i64 0]⟩
 | 47=>some ⟨1,false,2,24,137,[],[.slice none 0 0]⟩
 | 49=>some ⟨1,true,9,24,0,[(0,1,false)],[.slice none 0 0]⟩
 | 51=>some ⟨1,false,2,24,100,[],[.slice none 0 0]⟩
 | 54=>some ⟨1,false,2,24,103,[],[.slice none 0 0]⟩
 | 56=>some ⟨1,true,9,24,0,[(0,1,false)],[.slice none 0 0]⟩
 | 67=>some ⟨1,false,2,24,134,[],[.slice none 0 0]⟩
 | 69=>some ⟨3,true,9,56,0,[(0,1,false),(1,1,false),(2,1,false)],[.bool false,.slice none 0 0,.slice none 0 0]⟩
 | 73=>some ⟨6,true,9,64,0,[(0,1,false),(1,1,false),(2,1,false),(3,1,false),(4,1,false),(5,1,false)],[.int .i64 0,.int .i64 0,.int .i64 0,.int .i64 0,.int .i64 0,.slice none 0 0]⟩
 | 78=>some ⟨1,false,4,16,0,[],[.nilIface]⟩
 | 87=>some ⟨3,true,9,56,0,[(0,1,false),(1,1,false),(2,1,false)],[.bool false,.slice none 0 0,.slice none 0 0]⟩
 | 88=>some ⟨1,false,2,24,30,[],[.slice none 0 0]⟩
 | 92=>some ⟨1,false,2,24,4,[],[.slice none 0 0]⟩
 | 100=>some ⟨2,true,9,48,0,[(0,1,false),(1,1,false)],[.slice none 0 0,.slice none 0 0]⟩
 | 103=>some ⟨4,true,9,64,0,[(0,1,false),(1,1,false),(2,1,false),(3,1,false)],[.int .i64 0,.int .i64 0,.slice none 0 0,.slice none 0 0]⟩
 | 111=>some ⟨6,true,9,64,0,[(0,1,false),(1,1,false),(2,1,false),(3,1,false),(4,1,false),(5,1,false)],[.int .i64 0,.int .i64 0,.int .i64 0,.int .i64 0,.int .i64 0,.slice none 0 0]⟩
 | 117=>some ⟨1,false,2,24,134,[],[.slice none 0 0]⟩
 | 121=>some ⟨6,true,9,64,0,[(0,6,true)],[.int .i64 0,.int .i64 0,.int .i64 0,.int .i64 0,.int .i64 0,.slice none 0 0]⟩
 | 122=>some ⟨6,true,9,64,0,[(0,6,true)],[.int .i64 0,.int .i64 0,.int .i64 0,.int .i64 0,.int .i64 0,.slice none 0 0]⟩
 | 123=>some ⟨6,true,9,64,0,[(0,6,true)],[.int .i64 0,.int .i64 0,.int .i64 0,.int .i64 0,.int .i64 0,.slice none 0 0]⟩
 | 124=>some ⟨6,true,9,64,0,[(0,6,true)],[.int .i64 0,.int .i64 0,.int .i64 0,.int .i64 0,.int .i64 0,.slice none 0 0]⟩
 | 125=>some ⟨6,true,9,64,0,[(0,6,true)],[.int .i64 0,.int .i64 0,.int .i64 0,.int .i64 0,.int .i64 0,.slice none 0 0]⟩
 | 126=>some ⟨6,true,9,64,0,[(0,6,true)],[.int .i64 0,.int .i64 0,.int .i64 0,.int .i64 0,.int .i64 0,.slice none 0 0]⟩
 | 127=>some ⟨6,true,9,64,0,[(0,6,true)],[.int .i64 0,.int .i64 0,.int .i64 0,.int .i64 0,.int .i64 0,.slice none 0 0]⟩
 | 134=>some ⟨1,false,7,4,6,[],[.int .u32 0]⟩
 | 137=>some ⟨4,true,9,64,0,[(0,1,false),(1,1,false),(2,1,false),(3,1,false)],[.int .i64 0,.int .i64 0,.slice none 0 0,.slice none 0 0]⟩
 | 143=>some ⟨1,false,7,8,7,[],[.int .u64 0]⟩
 | 164=>some ⟨3,true,9,40,0,[(0,1,false),(1,1,false),(2,1,false)],[.int .i64 0,.int .i64 0,.slice none 0 0]⟩
 | 167=>some ⟨0,true,9,0,0,[],[]⟩
 | 168=>some ⟨0,true,9,0,0,[],[]⟩
 | 169=>some ⟨0,true,9,0,0,[],[]⟩
 | 171=>some ⟨1,true,9,8,0,[(0,0,true),(0,0,true),(0,1,false)],[.int .u64 0]⟩
 | 173=>some ⟨2,true,9,16,0,[(0,0,true),(0,1,true),(1,1,false)],[.int .u64 0,.int .u32 0]⟩
 | 179=>some ⟨1,false,5,8,117,[],[.pointer none]⟩
 | 185=>some ⟨1,false,5,8,173,[],[.pointer none]⟩
 | 187=>some ⟨1,false,0,8,0,[],[.pointer none]⟩
 | 188=>some ⟨1,false,7,8,3,[],[.int .i64 0]⟩
 | 192=>some ⟨1,false,5,8,134,[],[.pointer none]⟩
 | 206=>some ⟨1,false,5,8,143,[],[.pointer none]⟩
 | _=>none
theorem tok3:TOk Tryz.prog 3 ⟨1,false,7,8,3,[],[.int .i64 0]⟩:=⟨_,_,_,rfl,rfl,rfl,rfl,rfl,rfl,rfl,rfl,rfl,rfl,rfl,by decide,rfl⟩
theorem tok4:TOk Tryz.prog 4 ⟨1,false,1,1,0,[],[.bool false]⟩:=⟨_,_,_,rfl,rfl,rfl,rfl,rfl,rfl,rfl,rfl,rfl,rfl,rfl,by decide,rfl⟩
theorem tok5:TOk Tryz.prog 5 ⟨1,false,7,1,4,[],[.int .u8 0]⟩:=⟨_,_,_,rfl,rfl,rfl,rfl,rfl,rfl,rfl,rfl,rfl,rfl,rfl,by decide,rfl⟩
theorem tok9:TOk Tryz.prog 9 ⟨1,false,6,16,0,[],[.string { data:=#[] }]⟩:=⟨_,_,_,rfl,rfl,rfl,rfl,rfl,rfl,rfl,rfl,rfl,rfl,rfl,by decide,rfl⟩
theorem tok21:TOk Tryz.prog 21 ⟨1,false,7,4,2,[],[.int .i32 0]⟩:=⟨_,_,_,rfl,rfl,rfl,rfl,rfl,rfl,rfl,rfl,rfl,rfl,rfl,by decide,rfl⟩
theorem tok22:TOk Tryz.prog 22 ⟨1,false,2,24,87,[],[.slice none 0 0]⟩:=⟨_,_,_,rfl,rfl,rfl,rfl,rfl,rfl,rfl,rfl,rfl,rfl,rfl,by decide,rfl⟩
theorem tok23:TOk Tryz.prog 23 ⟨1,false,2,24,111,[],[.slice none 0 0]⟩:=⟨_,_,_,rfl,rfl,rfl,rfl,rfl,rfl,rfl,rfl,rfl,rfl,rfl,by decide,rfl⟩
theorem tok25:TOk Tryz.prog 25 ⟨6,true,9,96,0,[(0,1,false),(1,1,false),(2,1,false),(3,1,false),(4,1,false),(5,1,false)],[.int .i64 0,.int .i64 0,.slice none 0 0,.slice none 0 0,.slice none 0 0,.int .i64 0]⟩:=⟨_,_,_,rfl,rfl,rfl,rfl,rfl,rfl,rfl,rfl,rfl,rfl,rfl,by decide,rfl⟩
theorem tok27:TOk Tryz.prog 27 ⟨1,false,2,24,3,[],[.slice none 0 0]⟩:=⟨_,_,_,rfl,rfl,rfl,rfl,rfl,rfl,rfl,rfl,rfl,rfl,rfl,by decide,rfl⟩
theorem tok30:TOk Tryz.prog 30 ⟨1,false,2,24,69,[],[.slice none 0 0]⟩:=⟨_,_,_,rfl,rfl,rfl,rfl,rfl,rfl,rfl,rfl,rfl,rfl,rfl,by decide,rfl⟩
theorem tok31:TOk Tryz.prog 31 ⟨1,false,2,24,73,[],[.slice none 0 0]⟩:=⟨_,_,_,rfl,rfl,rfl,rfl,rfl,rfl,rfl,rfl,rfl,rfl,rfl,by decide,rfl⟩
theorem tok33:TOk Tryz.prog 33 ⟨6,true,9,96,0,[(0,1,false),(1,1,false),(2,1,false),(3,1,false),(4,1,false),(5,1,false)],[.int .i64 0,.int .i64 0,.slice none 0 0,.slice none 0 0,.slice none 0 0,.int .i64 0]⟩:=⟨_,_,_,rfl,rfl,rfl,rfl,rfl,rfl,rfl,rfl,rfl,rfl,rfl,by decide,rfl⟩
theorem tok47:TOk Tryz.prog 47 ⟨1,false,2,24,137,[],[.slice none 0 0]⟩:=⟨_,_,_,rfl,rfl,rfl,rfl,rfl,rfl,rfl,rfl,rfl,rfl,rfl,by decide,rfl⟩
theorem tok49:TOk Tryz.prog 49 ⟨1,true,9,24,0,[(0,1,false)],[.slice none 0 0]⟩:=⟨_,_,_,rfl,rfl,rfl,rfl,rfl,rfl,rfl,rfl,rfl,rfl,rfl,by decide,rfl⟩
theorem tok51:TOk Tryz.prog 51 ⟨1,false,2,24,100,[],[.slice none 0 0]⟩:=⟨_,_,_,rfl,rfl,rfl,rfl,rfl,rfl,rfl,rfl,rfl,rfl,rfl,by decide,rfl⟩
theorem tok54:TOk Tryz.prog 54 ⟨1,false,2,24,103,[],[.slice none 0 0]⟩:=⟨_,_,_,rfl,rfl,rfl,rfl,rfl,rfl,rfl,rfl,rfl,rfl,rfl,by decide,rfl⟩
theorem tok56:TOk Tryz.prog 56 ⟨1,true,9,24,0,[(0,1,false)],[.slice none 0 0]⟩:=⟨_,_,_,rfl,rfl,rfl,rfl,rfl,rfl,rfl,rfl,rfl,rfl,rfl,by decide,rfl⟩
theorem tok67:TOk Tryz.prog 67 ⟨1,false,2,24,134,[],[.slice none 0 0]⟩:=⟨_,_,_,rfl,rfl,rfl,rfl,rfl,rfl,rfl,rfl,rfl,rfl,rfl,by decide,rfl⟩
theorem tok69:TOk Tryz.prog 69 ⟨3,true,9,56,0,[(0,1,false),(1,1,false),(2,1,false)],[.bool false,.slice none 0 0,.slice none 0 0]⟩:=⟨_,_,_,rfl,rfl,rfl,rfl,rfl,rfl,rfl,rfl,rfl,rfl,rfl,by decide,rfl⟩
theorem tok73:TOk Tryz.prog 73 ⟨6,true,9,64,0,[(0,1,false),(1,1,false),(2,1,false),(3,1,false),(4,1,false),(5,1,false)],[.int .i64 0,.int .i64 0,.int .i64 0,.int .i64 0,.int .i64 0,.slice none 0 0]⟩:=⟨_,_,_,rfl,rfl,rfl,rfl,rfl,rfl,rfl,rfl,rfl,rfl,rfl,by decide,rfl⟩
theorem tok78:TOk Tryz.prog 78 ⟨1,false,4,16,0,[],[.nilIface]⟩:=⟨_,_,_,rfl,rfl,rfl,rfl,rfl,rfl,rfl,rfl,rfl,rfl,rfl,by decide,rfl⟩
theorem tok87:TOk Tryz.prog 87 ⟨3,true,9,56,0,[(0,1,false),(1,1,false),(2,1,false)],[.bool false,.slice none 0 0,.slice none 0 0]⟩:=⟨_,_,_,rfl,rfl,rfl,rfl,rfl,rfl,rfl,rfl,rfl,rfl,rfl,by decide,rfl⟩
theorem tok88:TOk Tryz.prog 88 ⟨1,false,2,24,30,[],[.slice none 0 0]⟩:=⟨_,_,_,rfl,rfl,rfl,rfl,rfl,rfl,rfl,rfl,rfl,rfl,rfl,by decide,rfl⟩
theorem tok92:TOk Tryz.prog 92 ⟨1,false,2,24,4,[],[.slice none 0 0]⟩:=⟨_,_,_,rfl,rfl,rfl,rfl,rfl,rfl,rfl,rfl,rfl,rfl,rfl,by decide,rfl⟩
theorem tok100:TOk Tryz.prog 100 ⟨2,true,9,48,0,[(0,1,false),(1,1,false)],[.slice none 0 0,.slice none 0 0]⟩:=⟨_,_,_,rfl,rfl,rfl,rfl,rfl,rfl,rfl,rfl,rfl,rfl,rfl,by decide,rfl⟩
theorem tok103:TOk Tryz.prog 103 ⟨4,true,9,64,0,[(0,1,false),(1,1,false),(2,1,false),(3,1,false)],[.int .i64 0,.int .i64 0,.slice none 0 0,.slice none 0 0]⟩:=⟨_,_,_,rfl,rfl,rfl,rfl,rfl,rfl,rfl,rfl,rfl,rfl,rfl,by decide,rfl⟩
theorem tok111:TOk Tryz.prog 111 ⟨6,true,9,64,0,[(0,1,false),(1,1,false),(2,1,false),(3,1,false),(4,1,false),(5,1,false)],[.int .i64 0,.int .i64 0,.int .i64 0,.int .i64 0,.int .i64 0,.slice none 0 0]⟩:=⟨_,_,_,rfl,rfl,rfl,rfl,rfl,rfl,rfl,rfl,rfl,rfl,rfl,by decide,rfl⟩
theorem tok117:TOk Tryz.prog 117 ⟨1,false,2,24,134,[],[.slice none 0 0]⟩:=⟨_,_,_,rfl,rfl,rfl,rfl,rfl,rfl,rfl,rfl,rfl,rfl,rfl,by decide,rfl⟩
theorem tok121:TOk Tryz.prog 121 ⟨6,true,9,64,0,[(0,6,true)],[.int .i64 0,.int .i64 0,.int .i64 0,.int .i64 0,.int .i64 0,.slice none 0 0]⟩:=⟨_,_,_,rfl,rfl,rfl,rfl,rfl,rfl,rfl,rfl,rfl,rfl,rfl,by decide,rfl⟩
theorem tok122:TOk Tryz.prog 122 ⟨6,true,9,64,0,[(0,6,true)],[.int .i64 0,.int .i64 0,.int .i64 0,.int .i64 0,.int .i64 0,.slice none 0 0]⟩:=⟨_,_,_,rfl,rfl,rfl,rfl,rfl,rfl,rfl,rfl,rfl,rfl,rfl,by decide,rfl⟩
theorem tok123:TOk Tryz.prog 123 ⟨6,true,9,64,0,[(0,6,true)],[.int .i64 0,.int .i64 0,.int .i64 0,.int .i64 0,.int .i64 0,.slice none 0 0]⟩:=⟨_,_,_,rfl,rfl,rfl,rfl,rfl,rfl,rfl,rfl,rfl,rfl,rfl,by decide,rfl⟩
theorem tok124:TOk Tryz.prog 124 ⟨6,true,9,64,0,[(0,6,true)],[.int .i64 0,.int .i64 0,.int .i64 0,.int .i64 0,.int .i64 0,.slice none 0 0]⟩:=⟨_,_,_,rfl,rfl,rfl,rfl,rfl,rfl,rfl,rfl,rfl,rfl,rfl,by decide,rfl⟩
theorem tok125:TOk Tryz.prog 125 ⟨6,true,9,64,0,[(0,6,true)],[.int .i64 0,.int .i64 0,.int .i64 0,.int .i64 0,.int .i64 0,.slice none 0 0]⟩:=⟨_,_,_,rfl,rfl,rfl,rfl,rfl,rfl,rfl,rfl,rfl,rfl,rfl,by decide,rfl⟩
theorem tok126:TOk Tryz.prog 126 ⟨6,true,9,64,0,[(0,6,true)],[.int .i64 0,.int .i64 0,.int .i64 0,.int .i64 0,.int .i64 0,.slice none 0 0]⟩:=⟨_,_,_,rfl,rfl,rfl,rfl,rfl,rfl,rfl,rfl,rfl,rfl,rfl,by decide,rfl⟩
theorem tok127:TOk Tryz.prog 127 ⟨6,true,9,64,0,[(0,6,true)],[.int .i64 0,.int .i64 0,.int .i64 0,.int .i64 0,.int .i64 0,.slice none 0 0]⟩:=⟨_,_,_,rfl,rfl,rfl,rfl,rfl,rfl,rfl,rfl,rfl,rfl,rfl,by decide,rfl⟩
theorem tok134:TOk Tryz.prog 134 ⟨1,false,7,4,6,[],[.int .u32 0]⟩:=⟨_,_,_,rfl,rfl,rfl,rfl,rfl,rfl,rfl,rfl,rfl,rfl,rfl,by decide,rfl⟩
theorem tok137:TOk Tryz.prog 137 ⟨4,true,9,64,0,[(0,1,false),(1,1,false),(2,1,false),(3,1,false)],[.int .i64 0,.int .i64 0,.slice none 0 0,.slice none 0 0]⟩:=⟨_,_,_,rfl,rfl,rfl,rfl,rfl,rfl,rfl,rfl,rfl,rfl,rfl,by decide,rfl⟩
theorem tok143:TOk Tryz.prog 143 ⟨1,false,7,8,7,[],[.int .u64 0]⟩:=⟨_,_,_,rfl,rfl,rfl,rfl,rfl,rfl,rfl,rfl,rfl,rfl,rfl,by decide,rfl⟩
theorem tok164:TOk Tryz.prog 164 ⟨3,true,9,40,0,[(0,1,false),(1,1,false),(2,1,false)],[.int .i64 0,.int .i64 0,.slice none 0 0]⟩:=⟨_,_,_,rfl,rfl,rfl,rfl,rfl,rfl,rfl,rfl,rfl,rfl,rfl,by decide,rfl⟩
theorem tok167:TOk Tryz.prog 167 ⟨0,true,9,0,0,[],[]⟩:=⟨_,_,_,rfl,rfl,rfl,rfl,rfl,rfl,rfl,rfl,rfl,rfl,rfl,by decide,rfl⟩
theorem tok168:TOk Tryz.prog 168 ⟨0,true,9,0,0,[],[]⟩:=⟨_,_,_,rfl,rfl,rfl,rfl,rfl,rfl,rfl,rfl,rfl,rfl,rfl,by decide,rfl⟩
theorem tok169:TOk Tryz.prog 169 ⟨0,true,9,0,0,[],[]⟩:=⟨_,_,_,rfl,rfl,rfl,rfl,rfl,rfl,rfl,rfl,rfl,rfl,rfl,by decide,rfl⟩
theorem tok171:TOk Tryz.prog 171 ⟨1,true,9,8,0,[(0,0,true),(0,0,true),(0,1,false)],[.int .u64 0]⟩:=⟨_,_,_,rfl,rfl,rfl,rfl,rfl,rfl,rfl,rfl,rfl,rfl,rfl,by decide,rfl⟩
theorem tok173:TOk Tryz.prog 173 ⟨2,true,9,16,0,[(0,0,true),(0,1,true),(1,1,false)],[.int .u64 0,.int .u32 0]⟩:=⟨_,_,_,rfl,rfl,rfl,rfl,rfl,rfl,rfl,rfl,rfl,rfl,rfl,by decide,rfl⟩
theorem tok179:TOk Tryz.prog 179 ⟨1,false,5,8,117,[],[.pointer none]⟩:=⟨_,_,_,rfl,rfl,rfl,rfl,rfl,rfl,rfl,rfl,rfl,rfl,rfl,by decide,rfl⟩
theorem tok185:TOk Tryz.prog 185 ⟨1,false,5,8,173,[],[.pointer none]⟩:=⟨_,_,_,rfl,rfl,rfl,rfl,rfl,rfl,rfl,rfl,rfl,rfl,rfl,by decide,rfl⟩
theorem tok187:TOk Tryz.prog 187 ⟨1,false,0,8,0,[],[.pointer none]⟩:=⟨_,_,_,rfl,rfl,rfl,rfl,rfl,rfl,rfl,rfl,rfl,rfl,rfl,by decide,rfl⟩
theorem tok188:TOk Tryz.prog 188 ⟨1,false,7,8,3,[],[.int .i64 0]⟩:=⟨_,_,_,rfl,rfl,rfl,rfl,rfl,rfl,rfl,rfl,rfl,rfl,rfl,by decide,rfl⟩
theorem tok192:TOk Tryz.prog 192 ⟨1,false,5,8,134,[],[.pointer none]⟩:=⟨_,_,_,rfl,rfl,rfl,rfl,rfl,rfl,rfl,rfl,rfl,rfl,rfl,by decide,rfl⟩
theorem tok206:TOk Tryz.prog 206 ⟨1,false,5,8,143,[],[.pointer none]⟩:=⟨_,_,_,rfl,rfl,rfl,rfl,rfl,rfl,rfl,rfl,rfl,rfl,rfl,by decide,rfl⟩
theorem tbF_ok:∀ t i,tbF t = some i → TOk Tryz.prog t i:=by
 intro t i h
 unfold tbF at h
 split at h
 ·cases h;exact tok3
 ·cases h;exact tok4
 ·cases h;exact tok5
 ·cases h;exact tok9
 ·cases h;exact tok21
 ·cases h;exact tok22
 ·cases h;exact tok23
 ·cases h;exact tok25
 ·cases h;exact tok27
 ·cases h;exact tok30
 ·cases h;exact tok31
 ·cases h;exact tok33
 ·cases h;exact tok47
 ·cases h;exact tok49
 ·cases h;exact tok51
 ·cases h;exact tok54
 ·cases h;exact tok56
 ·cases h;exact tok67
 ·cases h;exact tok69
 ·cases h;exact tok73
 ·cases h;exact tok78
 ·cases h;exact tok87
 ·cases h;exact tok88
 ·cases h;exact tok92
 ·cases h;exact tok100
 ·cases h;exact tok103
 ·cases h;exact tok111
 ·cases h;exact tok117
 ·cases h;exact tok121
 ·cases h;exact tok122
 ·cases h;exact tok123
 ·cases h;exact tok124
 ·cases h;exact tok125
 ·cases h;exact tok126
 ·cases h;exact tok127
 ·cases h;exact tok134
 ·cases h;exact tok137
 ·cases h;exact tok143
 ·cases h;exact tok164
 ·cases h;exact tok167
 ·cases h;exact tok168
 ·cases h;exact tok169
 ·cases h;exact tok171
 ·cases h;exact tok173
 ·cases h;exact tok179
 ·cases h;exact tok185
 ·cases h;exact tok187
 ·cases h;exact tok188
 ·cases h;exact tok192
 ·cases h;exact tok206
 ·cases h
def T:Tb Tryz.prog:=⟨tbF,tbF_ok⟩
end Go.Proofs.YtijldkknhphgcaaGreat.Pv
end

section
/- Rationals and their lists as they are seen; steps in short. No condition. -/
set_option linter.unusedVariables false
set_option linter.unusedSimpArgs false
namespace Go.Proofs.YtijldkknhphgcaaGreat.Pv
open Go.RowKit
instance rowAt0 {α:Type} (r:List α) (l:List (List α)):RowAt (r :: l) 0 r:=⟨fun _=>rfl⟩
theorem ld1 {α:Type} {row:List α} {G:List α → Prop} (h:G row):[row].length = 1 ∧ 0 < [row].length ∧ ∃ r,RowAt [row] 0 r ∧ G r:=⟨rfl,Nat.zero_lt_one,row,rowAt0 _ _,h⟩
def stp {P:Program} (T:Tb P) (c:Code) (K:Exit → St → Prop) (s:St):Option Prop:=match c with
 | .seq x y=>some (W P x (thn (W P y K) K) s)
 | .block id c=>some (W P c (inB id K) s)
 | .skip=>some (K .normal s)
 | .exit id=>some (K (.exit id) s)
 | .region _ ops false=>some (WY T ops ops.toList (K .normal) s)
 | _=>none
theorem zo {P:Program} (T:Tb P) {c:Code} {K:Exit → St → Prop} {s:St} {q:Prop} (h:stp T c K s = some q) (hq:q):W P c K s:=by
 unfold stp at h
 split at h <;> cases h
 ·exact W_seq hq
 ·exact W_block hq
 ·exact W_skip hq
 ·exact W_exit hq
 ·exact W_reg T hq
theorem zl {α:Type} {row:List α} {G:List α → Prop} (h:G row):[row].length = 1 ∧ 0 < [row].length ∧ ∃ r,RowAt [row] 0 r ∧ G r:=ld1 h
theorem hle_take:∀ {H H':List HB},H.take H'.length = H' → HLe H H'
 | H,[],_=>by cases H <;> exact True.intro
 | [],_ :: _,h=>by cases h
 | a :: r,b :: q,h=>by
  simp only [List.length_cons,List.take_succ_cons,List.cons.injEq] at h
  exact ⟨h.1,hle_take h.2⟩
theorem tle_map {tm:List (Nat × X)}:∀ {r:List (Nat × X)},r.map (fun p=>look tm p.1) = r.map (·.2) → TLe tm r
 | [],_=>trivial
 | (t,x) :: r,h=>by
  simp only [List.map_cons,List.cons.injEq] at h
  exact ⟨h.1,tle_map h.2⟩
theorem St.le_mk {s s':St} (h1:s'.n = s.n) (h2:s'.nx = s.nx) (h3:s'.m = s.m) (h4:Nat.ble s.m s'.H.length = true) (h5:s.H.take s'.H.length = s'.H) (h6:s'.tm.map (fun p=>look s.tm p.1) = s'.tm.map (·.2))
  (h7:(s'.tm.all (fun p=>p.2.lt s'.H.length) && s'.H.all (HB.lt s'.H.length)) = true):St.le s s' :=
 ⟨h1,h2,h3,Nat.le_of_ble_eq_true h4,hle_take h5,tle_map h6,h7⟩
theorem gPos {t want:Bool} {A B:Prop} (h:t = want) (ha:A):(t = want → A) ∧ (t = !want → B):=⟨fun _=>ha,fun h'=>(by subst h;cases t <;> cases h')⟩
theorem gNeg {t want:Bool} {A B:Prop} (h:t = !want) (hb:B):(t = want → A) ∧ (t = !want → B):=⟨fun h'=>(by subst h';cases t <;> cases h),fun _=>hb⟩
theorem zp {t want:Bool} {A B:Prop} (h:t = want) (ha:A):(t = want → A) ∧ (t = !want → B):=gPos h ha
theorem zq {t want:Bool} {A B:Prop} (h:t = !want) (hb:B):(t = want → A) ∧ (t = !want → B):=gNeg h hb
abbrev RtD:=Bool × List Nat × List Nat
def limR (l:List Nat):D:=.li none 1 (l.map fun (x:Nat)=>[.v (.int .u32 (x:Int))])
def rowR (r:RtD):List D:=[.v (.bool r.1),limR r.2.1,limR r.2.2]
def ratsR (rs:List RtD):D:=.li none 3 (rs.map rowR)
structure Aff where
 rows:Int
 cols:Int
 W:List RtD
 B:List RtD
instance:Inhabited Aff:=⟨⟨0,0,[],[]⟩⟩
instance rowMap {α:Type} [Inhabited α] (l:List α) (f:α → List D) (i:Nat):RowAt (l.map f) i (f (l.getD i default)) :=
 ⟨fun h=>by
  have h:i < l.length:=by simpa using h
  simp [List.getElem?_map,h]⟩
theorem take_snoc {α:Type} [Inhabited α] (l:List α) {k:Nat} (h:k < l.length):l.take (k + 1) = l.take k ++ [l.getD k default]:=by
 rw [List.take_add_one]
 simp [h]
def Lok (l:List Nat):Prop:=(∀ x ∈ l,x < 4294967296) ∧ l.length ≤ 1048576
def Rok (r:RtD):Prop:=Lok r.2.1 ∧ Lok r.2.2
def rokCon (rok:RtD → Bool):Con:=⟨RtD,fun g=>[(true,rowR g)],Rok,fun _ g=>bl (rok g),true⟩
def allCon (rok:RtD → Bool):Con:=⟨List RtD,fun g=>[(false,[ratsR g])],fun g=>g.length ≤ 1048576 ∧ ∀ r ∈ g,Rok r,fun _ g=>bl (g.all rok),true⟩
def inCon:Con:=⟨Int × Int × Int,fun g=>[(false,[.v (.int .i64 g.1)]),(false,[.v (.int .i64 g.2.1)]),(false,[.v (.int .i64 g.2.2)])],fun _=>True,fun _ g=>bl (decide (g.2.1 ≤ g.1) && decide (g.1 ≤ g.2.2)),true⟩
end Go.Proofs.YtijldkknhphgcaaGreat.Pv
end

section
/- Copies of the arguments: rows of limbs. No condition. -/
set_option linter.unusedVariables false
set_option linter.unusedSimpArgs false
namespace Go.Proofs.YtijldkknhphgcaaGreat.Pv
open Go.RowKit
def fill {α:Type} (f:α → List D) (z:List D) (l:List α) (k:Nat):List (List D):=(l.take k).map f ++ List.replicate (l.length - k) z
theorem fill_len {α:Type} {f:α → List D} {z:List D} {l:List α} {k:Nat} (h:k ≤ l.length):(fill f z l k).length = l.length:=by
 simp [fill]
 omega
theorem fill_zero {α:Type} {f:α → List D} {z:List D} {l:List α}:fill f z l 0 = List.replicate l.length z:=by simp [fill]
theorem fill_all {α:Type} {f:α → List D} {z:List D} {l:List α}:fill f z l l.length = l.map f:=by simp [fill]
theorem fill_row {α:Type} {f:α → List D} {z:List D} {l:List α} {k:Nat} (h:k < l.length):RowAt (fill f z l k) k z:=⟨fun _=>by
 unfold fill
 rw [List.getElem?_append_right (by simp;omega)]
 simp [List.getElem?_replicate]
 omega⟩
theorem fill_set {α:Type} [Inhabited α] {f:α → List D} {z:List D} {l:List α} {k:Nat} (h:k < l.length):(fill f z l k).set k (f (l.getD k default)) = fill f z l (k + 1):=by
 unfold fill
 rw [take_snoc l h,List.map_append,List.append_assoc,List.set_append_right _ _ (by simp;omega)]
 congr 1
 simp only [List.length_map,List.length_take,Nat.min_eq_left (Nat.le_of_lt h),Nat.sub_self]
 rw [show l.length - k = (l.length - (k + 1)) + 1 by omega,List.replicate_succ]
 rfl
def limRow (x:Nat):List D:=[.v (.int .u32 (x:Int))]
def limCon:Con:=⟨List Nat,fun l=>[(false,[limR l])],Lok,fun _ l=>.one (.p false [limR l]),true⟩
def toLim (l:List Nat) (nx k:Nat):St:=⟨[(0,.one (.p false [limR l])),(3,.one (.o false [.sl 0 0 l.length l.length])),(4,int .i64 k)],[.p 134 1 (fill limRow [.v (.int .u32 0)] l k)],22,nx,0⟩
theorem toUint32S_valid:Valid Tryz.prog 79 limCon:=by
 refine valid_intro (ts:=[2]) limCon Tryz.func79 rfl rfl rfl (by decide) (fun _=>Nat.le_of_ble_eq_true rfl) ?_
 rintro (l:List Nat) (hp:Lok l) nm nx
 have hl:=hp.2
 have hlen:(l.map limRow).length = l.length:=by simp
 ((conv=>whnf);repeat'((first|refine zo T rfl ?_|refine zl ?_);conv=>whnf))
 refine ⟨rfl,Int.natCast_nonneg _,by show ((l.map limRow).length:Int) * 4 ≤ _;omega,by show ((l.map limRow).length:Int) ≤ _;omega,?_⟩
 ((conv=>whnf);repeat'((first|refine zo T rfl ?_|refine zl ?_);conv=>whnf))
 refine W_loop (ι:=Nat) (fun k=>k ≤ l.length) (toLim l nx) (fun k=>l.length - k) 0 (Nat.zero_le _) ?_ ?_
 ·refine ⟨rfl,rfl,rfl,Nat.zero_le _,⟨?_,trivial⟩,⟨rfl,?_,rfl,trivial⟩,rfl⟩
  ·show HB.p _ _ (List.replicate (Int.toNat ((l.map limRow).length:Int)) _) = _
   rw [Int.toNat_natCast,hlen,fill_zero]
   rfl
  ·show X.one (.o false [.sl 0 0 (Int.toNat ((l.map limRow).length:Int)) (Int.toNat ((l.map limRow).length:Int))]) = _
   rw [Int.toNat_natCast,hlen]
 ·intro k hk
  ((conv=>whnf);repeat'((first|refine zo T rfl ?_|refine zl ?_);conv=>whnf))
  refine W_cond rfl (fun h=>?_) (fun h=>?_)
  ·have h1:k < l.length:=by simpa using h
   ((conv=>whnf);repeat'((first|refine zo T rfl ?_|refine zl ?_);conv=>whnf))
   refine ⟨Int.natCast_nonneg k,by show (k:Int) < (l.map limRow).length;omega,_,rowMap l limRow _,?_⟩
   refine ⟨fill_len hk,Int.natCast_nonneg k,by show (k:Int) < _;omega,?_⟩
   refine ⟨fill_len hk,?_,[.v (.int .u32 0)],?_,?_⟩
   ·show 0 + k < _
    rw [fill_len hk]
    omega
   ·show RowAt _ (0 + k) _
    rw [Nat.zero_add]
    exact fill_row h1
   ·((conv=>whnf);repeat'((first|refine zo T rfl ?_|refine zl ?_);conv=>whnf))
    refine ⟨by omega,?_⟩
    refine ⟨k + 1,h1,by omega,rfl,rfl,rfl,Nat.zero_le _,⟨?_,trivial⟩,⟨rfl,rfl,rfl,trivial⟩,rfl⟩
    show HB.p _ _ ((fill limRow _ l k).set (0 + k) (limRow (l.getD k default))) = _
    rw [Nat.zero_add,fill_set h1]
  ·have h1:k = l.length:=by
    have:decide ((k:Int) < (l.map limRow).length) = false:=h
    simp at this
    omega
   subst h1
   ((conv=>whnf);repeat'((first|refine zo T rfl ?_|refine zl ?_);conv=>whnf))
   refine W_ret ?_
   exact ⟨.inr rfl,.one (.o _ _ _ (.cons (.sl _ _ _ _ _ _ _ rfl (fill_len (Nat.le_refl _)) rfl (.inr (fun r hr x hx=>by
    rw [fill_all] at hr
    obtain ⟨y,_,rfl⟩:=List.mem_map.1 hr
    simp [limRow] at hx
    exact ⟨_,hx⟩)) (by rw [fill_all];rfl)) .nil))⟩
def ratCon:Con:=⟨RtD,fun r=>[(true,rowR r)],Rok,fun _ r=>.one (.p true (rowR r)),false⟩
theorem toRat_valid:Valid Tryz.prog 48 ratCon:=by
 refine valid_cell T (r:=2) (t:=69) ratCon rfl Tryz.func48 rfl rfl rfl (fun _=>Nat.le_of_ble_eq_true rfl) ?_
 rintro (q:RtD) (hp:Rok q) nm nx
 ((conv=>whnf);repeat'((first|refine zo T rfl ?_|refine zl ?_);conv=>whnf))
 refine .inl ⟨limCon,q.2.1,toUint32S_valid,hp.1,.cons (.same _ _) .nil,?_⟩
 ((conv=>whnf);repeat'((first|refine zo T rfl ?_|refine zl ?_);conv=>whnf))
 refine .inl ⟨limCon,q.2.2,toUint32S_valid,hp.2,.cons (.same _ _) .nil,?_⟩
 ((conv=>whnf);repeat'((first|refine zo T rfl ?_|refine zl ?_);conv=>whnf))
 exact W_ret ⟨.inr rfl,1,rowR q,rfl,rfl,rfl,.one (.same _ _ _ rfl rfl)⟩
end Go.Proofs.YtijldkknhphgcaaGreat.Pv
end

section
/- Lists of valid rationals, maps and nets that are valid: both sides. No condition. -/
set_option linter.unusedVariables false
set_option linter.unusedSimpArgs false
namespace Go.Proofs.YtijldkknhphgcaaGreat.Pv
open Go.RowKit
theorem in_valid:Valid Tryz.prog 32 inCon:=by
 refine valid_intro (ts:=[6]) inCon Tryz.func32 rfl rfl rfl (by decide) (fun _=>Nat.le_of_ble_eq_true rfl) ?_
 rintro ⟨x,a,b⟩ - nm nx
 ((conv=>whnf);repeat'((first|refine zo T rfl ?_|refine zl ?_);conv=>whnf))
 refine ⟨fun h=>?_,fun h=>?_⟩
 ·refine gPos h (gPos h ?_)
  ((conv=>whnf);repeat'((first|refine zo T rfl ?_|refine zl ?_);conv=>whnf))
  refine W_ret ⟨.inr rfl,.one (.p _ _ _ (.cons (.v _ _ ?_) .nil))⟩
  show Value.bool (cond (decide (a ≤ x)) (decide (x ≤ b)) false) = _
  rw [h]
  rfl
 ·refine gNeg h (gNeg h ⟨fun h'=>(by rw [h] at h';cases h'),fun _=>?_⟩)
  ((conv=>whnf);repeat'((first|refine zo T rfl ?_|refine zl ?_);conv=>whnf))
  refine W_ret ⟨.inr rfl,.one (.p _ _ _ (.cons (.v _ _ ?_) .nil))⟩
  show Value.bool false = Value.bool (decide (a ≤ x) && decide (x ≤ b))
  rw [h]
  rfl
theorem allOk_valid {rok:RtD → Bool} (hr:Valid Tryz.prog 65 (rokCon rok)):Valid Tryz.prog 33 (allCon rok):=by
 refine valid_intro (ts:=[2]) (allCon rok) Tryz.func33 rfl rfl rfl (by decide) (fun _=>Nat.le_of_ble_eq_true rfl) ?_
 rintro (g:List RtD) (hp:g.length ≤ 1048576 ∧ ∀ r ∈ g,Rok r) nm nx
 ((conv=>whnf);repeat'((first|refine zo T rfl ?_|refine zl ?_);conv=>whnf))
 refine W_loop (ι:=Nat) (fun k=>k ≤ g.length ∧ (g.take k).all rok = true) (fun k=>⟨[(0,.one (.p false [ratsR g])),(2,bl false),(3,int .i64 k)],[],16,nx,0⟩) (fun k=>g.length - k) 0 ⟨Nat.zero_le _,by simp⟩ ?_ ?_
 ·exact ⟨rfl,rfl,rfl,Nat.zero_le _,trivial,⟨rfl,rfl,rfl,trivial⟩,rfl⟩
 ·rintro k ⟨hk,ha⟩
  ((conv=>whnf);repeat'((first|refine zo T rfl ?_|refine zl ?_);conv=>whnf))
  refine W_cond rfl (fun h=>?_) (fun h=>?_)
  ·have h1:k < g.length:=by simpa [ratsR] using h
   have hm:g.getD k default ∈ g:=by simp [h1]
   ((conv=>whnf);repeat'((first|refine zo T rfl ?_|refine zl ?_);conv=>whnf))
   refine ⟨Int.natCast_nonneg k,by simpa [ratsR] using h1,_,inferInstance,?_⟩
   refine .inl ⟨rokCon rok,g.getD k default,hr,hp.2 _ hm,.cons (.same _ _) .nil,?_⟩
   ((conv=>whnf);repeat'((first|refine zo T rfl ?_|refine zl ?_);conv=>whnf))
   refine W_cond rfl (fun h2=>?_) (fun h2=>?_)
   ·((conv=>whnf);repeat'((first|refine zo T rfl ?_|refine zl ?_);conv=>whnf))
    refine W_ret ⟨.inr rfl,.one (.p _ _ _ (.cons (.v _ _ ?_) .nil))⟩
    have h2:rok (g.getD k default) = false:=by simpa using h2
    have:g.all rok = false:=by
     rw [List.all_eq_false]
     exact ⟨_,hm,by rw [h2];simp⟩
    exact congrArg Value.bool this.symm
   ·have h2:rok (g.getD k default) = true:=by simpa using h2
    ((conv=>whnf);repeat'((first|refine zo T rfl ?_|refine zl ?_);conv=>whnf))
    refine ⟨by have:=hp.1;omega,?_⟩
    exact ⟨k + 1,⟨h1,by rw [take_snoc g h1,List.all_append,ha,List.all_cons,h2];rfl⟩,by omega,rfl,rfl,rfl,Nat.zero_le _,trivial,⟨rfl,rfl,rfl,trivial⟩,rfl⟩
  ·have h1:k = g.length:=by simp [ratsR] at h;omega
   subst h1
   ((conv=>whnf);repeat'((first|refine zo T rfl ?_|refine zl ?_);conv=>whnf))
   refine W_ret ⟨.inr rfl,.one (.p _ _ _ (.cons (.v _ _ ?_) .nil))⟩
   rw [List.take_length] at ha
   exact congrArg Value.bool ha.symm
theorem ok_valid {rok:RtD → Bool} (hr:Valid Tryz.prog 71 (rokCon rok)):Valid Tryz.prog 39 (allCon rok):=by
 refine valid_intro (ts:=[2]) (allCon rok) Tryz.func39 rfl rfl rfl (by decide) (fun _=>Nat.le_of_ble_eq_true rfl) ?_
 rintro (g:List RtD) (hp:g.length ≤ 1048576 ∧ ∀ r ∈ g,Rok r) nm nx
 ((conv=>whnf);repeat'((first|refine zo T rfl ?_|refine zl ?_);conv=>whnf))
 refine W_loop (ι:=Nat) (fun k=>k ≤ g.length ∧ (g.take k).all rok = true) (fun k=>⟨[(2,bl false),(5,.one (.p false [ratsR g])),(6,int .i64 (g.map rowR).length),(7,int .i64 k)],[],15,nx,0⟩) (fun k=>g.length - k) 0 ⟨Nat.zero_le _,by simp⟩ ?_ ?_
 ·exact ⟨rfl,rfl,rfl,Nat.zero_le _,trivial,⟨rfl,rfl,rfl,rfl,trivial⟩,rfl⟩
 ·rintro k ⟨hk,ha⟩
  ((conv=>whnf);repeat'((first|refine zo T rfl ?_|refine zl ?_);conv=>whnf))
  refine W_cond rfl (fun h=>?_) (fun h=>?_)
  ·have h1:k < g.length:=by simpa using h
   have hm:g.getD k default ∈ g:=by simp [h1]
   ((conv=>whnf);repeat'((first|refine zo T rfl ?_|refine zl ?_);conv=>whnf))
   refine ⟨Int.natCast_nonneg k,by simpa [ratsR] using h1,_,inferInstance,?_⟩
   ((conv=>whnf);repeat'((first|refine zo T rfl ?_|refine zl ?_);conv=>whnf))
   refine .inl ⟨rokCon rok,g.getD k default,hr,hp.2 _ hm,.cons (.same _ _) .nil,?_⟩
   ((conv=>whnf);repeat'((first|refine zo T rfl ?_|refine zl ?_);conv=>whnf))
   refine W_cond rfl (fun h2=>?_) (fun h2=>?_)
   ·((conv=>whnf);repeat'((first|refine zo T rfl ?_|refine zl ?_);conv=>whnf))
    refine W_ret ⟨.inr rfl,.one (.p _ _ _ (.cons (.v _ _ ?_) .nil))⟩
    have h2:rok (g.getD k default) = false:=by simpa using h2
    have:g.all rok = false:=by
     rw [List.all_eq_false]
     exact ⟨_,hm,by rw [h2];simp⟩
    exact congrArg Value.bool this.symm
   ·have h2:rok (g.getD k default) = true:=by simpa using h2
    ((conv=>whnf);repeat'((first|refine zo T rfl ?_|refine zl ?_);conv=>whnf))
    refine ⟨by have:=hp.1;omega,?_⟩
    exact ⟨k + 1,⟨h1,by rw [take_snoc g h1,List.all_append,ha,List.all_cons,h2];rfl⟩,by omega,rfl,rfl,rfl,Nat.zero_le _,trivial,⟨rfl,rfl,rfl,rfl,trivial⟩,rfl⟩
  ·have h1:k = g.length:=by simp at h;omega
   subst h1
   ((conv=>whnf);repeat'((first|refine zo T rfl ?_|refine zl ?_);conv=>whnf))
   refine W_ret ⟨.inr rfl,.one (.p _ _ _ (.cons (.v _ _ ?_) .nil))⟩
   rw [List.take_length] at ha
   exact congrArg Value.bool ha.symm
theorem mul_le {a b:Int} (ha:0 ≤ a ∧ a ≤ 20000) (hb:0 ≤ b ∧ b ≤ 20001):0 ≤ a * b ∧ a * b ≤ 400020000:=by
 refine ⟨Int.mul_nonneg ha.1 hb.1,Int.le_trans (Int.mul_le_mul ha.2 hb.2 hb.1 (by omega)) (by decide)⟩
def mapOk (rok:RtD → Bool) (m:Aff):Bool :=
 (decide (0 ≤ m.rows) && decide (m.rows ≤ 20000)) && (decide (0 ≤ m.cols) && decide (m.cols ≤ 20000)) && (decide ((m.W.length:Int) = m.rows * m.cols) && (decide ((m.B.length:Int) = m.rows) && decide (m.rows * (m.cols + 1) ≤ 20000))) && (m.W.all rok && m.B.all rok)
def LsOk (g:List RtD):Prop:=g.length ≤ 1048576 ∧ ∀ r ∈ g,Rok r
end Go.Proofs.YtijldkknhphgcaaGreat.Pv
end

section
/- Nets that are valid: both sides. No condition. -/
set_option linter.unusedVariables false
set_option linter.unusedSimpArgs false
namespace Go.Proofs.YtijldkknhphgcaaGreat.Pv
open Go.RowKit
def at_ (ms:List Aff) (i:Nat):Aff:=ms.getD i default
def cellsTo (ms:List Aff):Nat → Int
 | 0=>0
 | k + 1=>cellsTo ms k + (at_ ms k).rows * ((at_ ms k).cols + 1)
def upTo (rok:RtD → Bool) (ms:List Aff) (k:Nat):Prop:=∀ i,i < k → mapOk rok (at_ ms i) = true ∧ (0 < i → (at_ ms i).cols = (at_ ms (i - 1)).rows)
instance (rok:RtD → Bool) (ms:List Aff) (k:Nat):Decidable (upTo rok ms k):=by unfold upTo;infer_instance
def NetIs (rok:RtD → Bool) (ms:List Aff):Prop:=(1 ≤ ms.length ∧ ms.length ≤ 10000) ∧ upTo rok ms ms.length ∧ cellsTo ms ms.length ≤ 20000
instance (rok:RtD → Bool) (ms:List Aff):Decidable (NetIs rok ms):=by unfold NetIs;infer_instance
theorem no {p:Prop} [Decidable p] (h:¬p):Value.bool false = Value.bool (decide p):=by rw [decide_eq_false h]
theorem yes {p:Prop} [Decidable p] (h:p):Value.bool true = Value.bool (decide p):=by rw [decide_eq_true h]
end Go.Proofs.YtijldkknhphgcaaGreat.Pv
end

section
/- Copies of the arguments: rationals, maps, nets. No condition. -/
set_option linter.unusedVariables false
set_option linter.unusedSimpArgs false
namespace Go.Proofs.YtijldkknhphgcaaGreat.Pv
open Go.RowKit
def ratsCon:Con:=⟨List RtD,fun l=>[(false,[ratsR l])],LsOk,fun _ l=>.one (.p false [ratsR l]),false⟩
def toRats (l:List RtD) (nx k:Nat):St:=⟨[(0,.one (.p false [ratsR l])),(3,.one (.o false [.sl 0 0 l.length l.length])),(4,int .i64 k)],[.p 69 3 (fill rowR [.v (.bool false),.v (.slice none 0 0),.v (.slice none 0 0)] l k)],23,nx,0⟩
theorem toRatS_valid:Valid Tryz.prog 17 ratsCon:=by
 refine valid_intro (ts:=[2]) ratsCon Tryz.func17 rfl rfl rfl (by decide) (fun _=>Nat.le_of_ble_eq_true rfl) ?_
 rintro (l:List RtD) (hp:LsOk l) nm nx
 have hl:=hp.1
 have hlen:(l.map rowR).length = l.length:=by simp
 ((conv=>whnf);repeat'((first|refine zo T rfl ?_|refine zl ?_);conv=>whnf))
 refine ⟨rfl,Int.natCast_nonneg _,by show ((l.map rowR).length:Int) * 56 ≤ _;omega,by show ((l.map rowR).length:Int) ≤ _;omega,?_⟩
 ((conv=>whnf);repeat'((first|refine zo T rfl ?_|refine zl ?_);conv=>whnf))
 refine W_loop (ι:=Nat) (fun k=>k ≤ l.length) (toRats l nx) (fun k=>l.length - k) 0 (Nat.zero_le _) ?_ ?_
 ·refine ⟨rfl,rfl,rfl,Nat.zero_le _,⟨?_,trivial⟩,⟨rfl,?_,rfl,trivial⟩,rfl⟩
  ·show HB.p _ _ (List.replicate (Int.toNat ((l.map rowR).length:Int)) _) = _
   rw [Int.toNat_natCast,hlen,fill_zero]
   rfl
  ·show X.one (.o false [.sl 0 0 (Int.toNat ((l.map rowR).length:Int)) (Int.toNat ((l.map rowR).length:Int))]) = _
   rw [Int.toNat_natCast,hlen]
 ·intro k hk
  ((conv=>whnf);repeat'((first|refine zo T rfl ?_|refine zl ?_);conv=>whnf))
  refine W_cond rfl (fun h=>?_) (fun h=>?_)
  ·have h1:k < l.length:=by
    have:decide ((k:Int) < (l.map rowR).length) = true:=h
    simpa using this
   have hm:l.getD k default ∈ l:=by simp [h1]
   ((conv=>whnf);repeat'((first|refine zo T rfl ?_|refine zl ?_);conv=>whnf))
   refine ⟨Int.natCast_nonneg k,by show (k:Int) < (l.map rowR).length;omega,_,rowMap l rowR _,?_⟩
   refine .inl ⟨ratCon,l.getD k default,toRat_valid,hp.2 _ hm,.cons (.same _ _) .nil,?_⟩
   refine ⟨fill_len hk,Int.natCast_nonneg k,by show (k:Int) < _;omega,?_⟩
   refine ⟨fill_len hk,?_,[.v (.bool false),.v (.slice none 0 0),.v (.slice none 0 0)],?_,?_⟩
   ·show 0 + k < _
    rw [fill_len hk]
    omega
   ·show RowAt _ (0 + k) _
    rw [Nat.zero_add]
    exact fill_row h1
   ·((conv=>whnf);repeat'((first|refine zo T rfl ?_|refine zl ?_);conv=>whnf))
    refine ⟨by omega,?_⟩
    refine ⟨k + 1,h1,by omega,rfl,rfl,rfl,Nat.zero_le _,⟨?_,trivial⟩,⟨rfl,rfl,rfl,trivial⟩,rfl⟩
    show HB.p _ _ ((fill rowR _ l k).set (0 + k) (rowR (l.getD k default))) = _
    rw [Nat.zero_add,fill_set h1]
  ·have h1:k = l.length:=by
    have:decide ((k:Int) < (l.map rowR).length) = false:=h
    simp at this
    omega
   subst h1
   ((conv=>whnf);repeat'((first|refine zo T rfl ?_|refine zl ?_);conv=>whnf))
   refine W_ret ?_
   exact ⟨.inr rfl,.one (.o _ _ _ (.cons (.sl _ _ _ _ _ _ _ rfl (fill_len (Nat.le_refl _)) rfl (.inl rfl) (by rw [fill_all])) .nil))⟩
end Go.Proofs.YtijldkknhphgcaaGreat.Pv
end

section
/- Functions whose names for owned data count from zero; equality of ints. No condition. -/
set_option linter.unusedVariables false
set_option linter.unusedSimpArgs false
namespace Go.Proofs.YtijldkknhphgcaaGreat.Pv
open Go.RowKit
section
variable {b:B} {cur:List K} {tk:TK} {s:St} {a:Act} {w:World} {P:Program}
theorem valid_intro0 {f:FuncId} {fn:Func} {c:Code} {ts:List Nat} (con:Con) (hf:P.funcs[f]? = some fn) (hb:fn.body = some c) (hn:(fn.name == "runtime.NumGoroutine") = false)
  (ht:fn.results = (ts.map ResultVar.tmp).toArray) (hl:ts.length ≤ 3) (hle:∀ g,(con.args g).length ≤ fn.ntmps)
  (h:∀ g,con.pre g → ∀ nm,startF (con.args g) fn.ntmps 0 (W P c fun e s=>(e = .normal ∨ e = .ret) ∧ XLe con.own s.H (resX s ts) (con.res nm g))):Valid P f con:=by
 simp only [startF_eq] at h
 refine ⟨⟨fn,hf,hn,by simp [hb]⟩,fun g hpre nm w ok tk0 vs hok hiv hargs=>?_⟩
 let b:B:=⟨w,w.heap.size,ok,fun _=>False,[],TK.no⟩
 obtain ⟨hal,har⟩:=hargs
 refine calls_of_wp hf hb ?_
 have hgl:vs.length = (con.args g).length:=hal.symm
 have hle:=hle g
 have hsize:(vs.toArray ++ Array.replicate (fn.ntmps - vs.toArray.size) undef).size = fn.ntmps:=by simp;omega
 have hsim:SimC b [] TK.no (st0 ((con.args g).map toX) fn.ntmps 0) ⟨vs.toArray ++ Array.replicate (fn.ntmps - vs.toArray.size) undef,[]⟩ w:=by
  have hokk:∀ k,ok k → okOf b [] TK.no w k:=fun k hk=>⟨.inl hk,hok k hk,fun q hq=>(by cases hq),rfl⟩
  refine ⟨Below.refl _ _,fun _ _ _=>rfl,Nat.le_refl _,rfl,(fun i k h hk=>by cases hk),(fun i j k q hi=>by cases hi),(fun k hk=>by cases hk),fun t=>?_,hsize,rfl,⟨Nat.zero_le _,fun x l h=>by cases h⟩,(fun x l h=>by cases h),⟨Nat.le_refl _,fun _ _=>rfl⟩,hok,fun i k hk=>(by cases hk),Nat.zero_le _,Nat.zero_le _,Iv.mono (m:=⟨w,ok,tk0⟩) (m':=mOf b [] TK.no w) ⟨hokk,fun _ _=>rfl⟩ hiv⟩
  ·show RelX _ (look (((con.args g).map toX).zipIdx.map fun p=>(p.2,p.1)) t) _
   rw [look_zip,if_pos (Nat.zero_le _),Nat.sub_zero,List.getElem?_map]
   cases hd:(con.args g)[t]? with
   | none=>trivial
   | some d =>
    have htl:t < vs.length:=by
     rw [hgl]
     exact (List.getElem?_eq_some_iff.1 hd).1
    obtain ⟨us,h1,h2⟩:=har t d vs[t] hd (List.getElem?_eq_getElem htl)
    have e:(vs.toArray ++ Array.replicate (fn.ntmps - vs.toArray.size) undef).getD t undef = vs[t]:=by
     rw [Array.getD_eq_getD_getElem?,Array.getElem?_append_left (by simpa using htl)]
     simp [htl]
    simp only [e]
    exact ⟨us,RelDL.mono (m:=⟨w,ok,tk0⟩) (m':=mOf b [] TK.no w) ⟨hokk,fun _ _=>rfl⟩ h1,h2⟩
 refine wp_mono ((h g hpre nm).1 b _ w ⟨[],_,hsim⟩) ?_
 rintro e a' w' ⟨s',⟨he,hx⟩,cur',tk',hs'⟩
 obtain ⟨v,hr,hv⟩:=resX_rel (P:=P) hs' ht hl
 have hfin:a'.defers = [] ∧ ∃ v,(results fn a'.tmps).run P w' = .ok v w' ∧ ∃ v',∃ _tk:TK,Ending.returned v = .returned v' ∧ Below w.heap.size w w' ∧
   RelX ⟨⟨w',fun k=>((ok k ∧ con.own = false) ∨ w.heap.size ≤ k) ∧ k < w'.heap.size,TK.no⟩,[]⟩ (con.res nm g) v' :=
  ⟨hs'.dfr,v,hr,v,tk0,rfl,hs'.bel,hx.rel hs' (fun _ h=>h) hv TK.no⟩
 rcases he with rfl | rfl
 ·exact hfin
 ·exact hfin
end
end Go.Proofs.YtijldkknhphgcaaGreat.Pv
end

section
/- Graphs as they are seen; what is asked of them. No condition. -/
set_option linter.unusedVariables false
set_option linter.unusedSimpArgs false
namespace Go.Proofs.YtijldkknhphgcaaGreat.Pv
open Go.RowKit
structure Nod where
 op:Int
 a:Int
 b:Int
 k:Int
 s:Int
 v:List RtD
deriving DecidableEq
instance:Inhabited Nod:=⟨⟨0,0,0,0,0,[]⟩⟩
def rowN (n:Nod):List D:=[.v (.int .i64 n.op),.v (.int .i64 n.a),.v (.int .i64 n.b),.v (.int .i64 n.k),.v (.int .i64 n.s),ratsR n.v]
def nodsD (l:List Nod):D:=.li none 6 (l.map rowN)
structure Gr where
 inp:Int
 rnd:Int
 lo:List RtD
 hi:List RtD
 nodes:List Nod
 out:Int
deriving DecidableEq
instance:Inhabited Gr:=⟨⟨0,0,[],[],[],0⟩⟩
def rowG (g:Gr):List D:=[.v (.int .i64 g.inp),.v (.int .i64 g.rnd),ratsR g.lo,ratsR g.hi,nodsD g.nodes,.v (.int .i64 g.out)]
def NsOk (l:List Nod):Prop:=l.length ≤ 1048576 ∧ ∀ n ∈ l,LsOk n.v
def GOk (g:Gr):Prop:=LsOk g.lo ∧ LsOk g.hi ∧ NsOk g.nodes
def FormOk (rok:RtD → Bool) (n:Nod):Prop :=
 (n.op = 1 ∧ n.b = 0 ∧ n.s = 0 ∧ (1 ≤ n.k ∧ n.k ≤ 1000) ∧ n.v.all rok = true) ∨
 (n.op = 2 ∧ n.b = 0 ∧ n.k = 0 ∧ n.s = 0 ∧ n.v.length = 0) ∨
 (n.op = 3 ∧ n.b = 0 ∧ n.k = 0 ∧ n.s = 0 ∧ n.v.length = 1 ∧ n.v.all rok = true) ∨
 (n.op = 4 ∧ n.k = 0 ∧ n.s = 0 ∧ n.v.length = 0) ∨
 (n.op = 5 ∧ n.b = 0 ∧ n.s = 0 ∧ n.v.length = 0 ∧ (1 ≤ n.k ∧ n.k ≤ 1000)) ∨
 (n.op = 6 ∧ n.b = 0 ∧ (1 ≤ n.k ∧ n.k ≤ 1000) ∧ (1 ≤ n.s ∧ n.s ≤ 1000) ∧ n.v.all rok = true) ∨
 (n.op = 7 ∧ n.b = 0 ∧ n.k = 0 ∧ n.s = 0 ∧ n.v.length = 4 ∧ n.v.all rok = true)
instance (rok:RtD → Bool) (n:Nod):Decidable (FormOk rok n):=by unfold FormOk;infer_instance
def dimAt (dims:List Int) (k:Int):Int:=dims.getD k.toNat 0
def shapeF (n:Nod) (d e:Int):Int :=
 if n.op = 1 then (if (n.v.length:Int) = n.k * (d + 1) then n.k else 0) else
 if n.op = 4 then (if d = e then d else 0) else
 if n.op = 5 then (if d % n.k = 0 then d / n.k else 0) else
 if n.op = 6 then (if n.k ≤ d ∧ (n.v.length:Int) = n.k + 1 then (d - n.k) / n.s + 1 else 0) else d
def dimOf (n:Nod) (dims:List Int):Int:=shapeF n (dimAt dims n.a) (dimAt dims n.b)
def srcIn (n:Nod) (dims:List Int):Prop:=(0 ≤ n.a ∧ n.a < dims.length) ∧ (n.op = 4 → 0 ≤ n.b ∧ n.b < dims.length)
instance (n:Nod) (dims:List Int):Decidable (srcIn n dims):=by unfold srcIn;infer_instance
def codeF (rok:RtD → Bool) (n:Nod) (dims:List Int):Int :=
 if ¬ FormOk rok n then 12 else if ¬ srcIn n dims then 13 else if dimOf n dims = 0 then 14 else
 if n.op = 7 ∧ (n.v.getD 2 default).2.1.length = 0 then 15 else 0
abbrev Chk:=List Int × Int × Int
def chkN (rok:RtD → Bool):List Nod → List Int → Chk
 | [],dims=>(dims,0,0)
 | n :: r,dims=>if codeF rok n dims = 0 then chkN rok r (dims ++ [dimOf n dims]) else ([],codeF rok n dims,dims.length)
def boxN (cmp:RtD → RtD → Int) (rest:Chk):List RtD → List RtD → Nat → Chk
 | a :: l,b :: m,j=>if 0 < cmp a b then ([],11,j) else boxN cmp rest l m (j + 1)
 | _,_,_=>rest
def HeadOk (rok:RtD → Bool) (g:Gr):Prop :=
 (1 ≤ g.inp ∧ g.inp ≤ 1000) ∧ (0 ≤ g.rnd ∧ g.rnd ≤ 1000) ∧ g.nodes.length ≤ 1000 ∧ (g.lo.length:Int) = g.inp ∧ (g.hi.length:Int) = g.inp ∧ g.lo.all rok = true ∧ g.hi.all rok = true
instance (rok:RtD → Bool) (g:Gr):Decidable (HeadOk rok g):=by unfold HeadOk;infer_instance
def outF (g:Gr) (r:Chk):Chk:=if r.2.1 = 0 then (if 0 ≤ g.out ∧ g.out ≤ g.nodes.length then r else ([],16,0)) else r
def chkF (rok:RtD → Bool) (cmp:RtD → RtD → Int) (g:Gr):Chk :=
 if HeadOk rok g then boxN cmp (outF g (chkN rok g.nodes [g.inp])) g.lo g.hi 0 else ([],10,0)
theorem boxN_step {cmp:RtD → RtD → Int} {rest:Chk} {l m:List RtD} {k:Nat} (h1:k < l.length) (h2:k < m.length) (j:Nat) :
  boxN cmp rest (l.drop k) (m.drop k) j = if 0 < cmp (l.getD k default) (m.getD k default) then ([],11,(j:Int)) else boxN cmp rest (l.drop (k + 1)) (m.drop (k + 1)) (j + 1):=by
 rw [List.drop_eq_getElem_cons h1,List.drop_eq_getElem_cons h2,boxN]
 simp [h1,h2]
theorem boxN_end {cmp:RtD → RtD → Int} {rest:Chk} {l m:List RtD} {k:Nat} (h1:l.length ≤ k) (j:Nat):boxN cmp rest (l.drop k) (m.drop k) j = rest:=by
 rw [List.drop_eq_nil_of_le h1,boxN]
 simp
theorem chkN_step {rok:RtD → Bool} {l:List Nod} {k:Nat} (h1:k < l.length) (dims:List Int) :
  chkN rok (l.drop k) dims = if codeF rok (l.getD k default) dims = 0 then chkN rok (l.drop (k + 1)) (dims ++ [dimOf (l.getD k default) dims]) else ([],codeF rok (l.getD k default) dims,dims.length):=by
 rw [List.drop_eq_getElem_cons h1,chkN]
 simp [h1]
def intsD (l:List Int):D:=.li none 1 (l.map fun x=>[.v (.int .i64 x)])
def chkX (r:Chk):X:=.tup [.p false [intsD r.1],.p false [.v (.int .i64 r.2.1)],.p false [.v (.int .i64 r.2.2)]]
def chkCon (rok:RtD → Bool) (cmp:RtD → RtD → Int):Con:=⟨Gr,fun g=>[(true,rowG g)],GOk,fun _ g=>chkX (chkF rok cmp g),true⟩
def DimsOk (l:List Int):Prop:=∀ d ∈ l,1 ≤ d ∧ d ≤ 1000
theorem dims_at {l:List Int} (h:DimsOk l) {k:Int} (h0:0 ≤ k) (h1:k < l.length):1 ≤ dimAt l k ∧ dimAt l k ≤ 1000:=by
 have hk:k.toNat < l.length:=by omega
 refine h _ ?_
 unfold dimAt
 simp [hk]
theorem shape_ok {rok:RtD → Bool} {n:Nod} (hf:FormOk rok n) {d e:Int} (hd:1 ≤ d ∧ d ≤ 1000) (h:shapeF n d e ≠ 0):1 ≤ shapeF n d e ∧ shapeF n d e ≤ 1000:=by
 unfold shapeF at h ⊢
 unfold FormOk at hf
 split
 ·rename_i h1
  rw [if_pos h1] at h
  split
  ·omega
  ·rename_i h2;rw [if_neg h2] at h;exact absurd rfl h
 rename_i h1
 rw [if_neg h1] at h
 split
 ·rename_i h2
  rw [if_pos h2] at h
  split
  ·exact hd
  ·rename_i h3;rw [if_neg h3] at h;exact absurd rfl h
 rename_i h2
 rw [if_neg h2] at h
 split
 ·rename_i h3
  rw [if_pos h3] at h
  have hk:1 ≤ n.k ∧ n.k ≤ 1000:=by omega
  split
  ·rename_i h4
   rw [if_pos h4] at h
   have e1:0 ≤ d / n.k:=Int.ediv_nonneg (by omega) (by omega)
   have e2:d / n.k ≤ d:=Int.ediv_le_self _ (by omega)
   omega
  ·rename_i h4;rw [if_neg h4] at h;exact absurd rfl h
 rename_i h3
 rw [if_neg h3] at h
 split
 ·rename_i h4
  rw [if_pos h4] at h
  have hk:(1 ≤ n.k ∧ n.k ≤ 1000) ∧ 1 ≤ n.s:=by omega
  split
  ·rename_i h5
   have e1:0 ≤ (d - n.k) / n.s:=Int.ediv_nonneg (by omega) (by omega)
   have e2:(d - n.k) / n.s ≤ d - n.k:=Int.ediv_le_self _ (by omega)
   omega
  ·rename_i h5;rw [if_neg h5] at h;exact absurd rfl h
 ·exact hd
end Go.Proofs.YtijldkknhphgcaaGreat.Pv
end

section
/- Which fields an operator uses (the document's). No condition. -/
set_option linter.unusedVariables false
set_option linter.unusedSimpArgs false
namespace Go.Proofs.YtijldkknhphgcaaGreat.Pv
open Go.RowKit
def usesK (op:Int):Bool:=(op == 1 || op == 5) || op == 6
def usesS (op:Int):Bool:=op == 6
def usesV (op:Int):Bool:=((op == 1 || op == 3) || op == 6) || op == 7
def usesB (op:Int):Bool:=op == 4
def useCon (f:Int → Bool):Con:=⟨Int,fun x=>[(false,[.v (.int .i64 x)])],fun _=>True,fun _ x=>bl (f x),true⟩
theorem usesK_valid:Valid Tryz.prog 103 (useCon usesK):=by
 refine valid_intro (ts:=[2]) (useCon usesK) Tryz.func103 rfl rfl rfl (by decide) (fun _=>Nat.le_of_ble_eq_true rfl) ?_
 rintro (op:Int) - nm nx
 ((conv=>whnf);repeat'((first|refine zo T rfl ?_|refine zl ?_);conv=>whnf))
 refine ⟨fun h=>?_,fun h=>?_⟩
 ·(repeat'((first|refine zo T rfl ?_|refine zl ?_|refine zp h ?_|refine zq h ?_|refine zp rfl ?_|refine zq rfl ?_);conv=>whnf))
  refine ⟨fun h2=>?_,fun h2=>?_⟩
  ·(repeat'((first|refine zo T rfl ?_|refine zl ?_|refine zp h2 ?_|refine zq h2 ?_|refine zp rfl ?_|refine zq rfl ?_);conv=>whnf))
   refine W_ret ⟨.inr rfl,.one (.p _ _ _ (.cons (.v _ _ (congrArg Value.bool ?_)) .nil))⟩
   show cond (cond (op == 1) true (op == 5)) true (op == 6) = usesK op
   unfold usesK
   cases op == 1 <;> cases op == 5 <;> rfl
  ·(repeat'((first|refine zo T rfl ?_|refine zl ?_|refine zp h2 ?_|refine zq h2 ?_|refine zp rfl ?_|refine zq rfl ?_);conv=>whnf))
   refine W_ret ⟨.inr rfl,.one (.p _ _ _ (.cons (.v _ _ (congrArg Value.bool ?_)) .nil))⟩
   have h2:cond (op == 1) true (op == 5) = true:=h2
   show true = usesK op
   unfold usesK
   revert h2
   cases op == 1 <;> cases op == 5 <;> cases op == 6 <;> decide
 ·(repeat'((first|refine zo T rfl ?_|refine zl ?_|refine zp h ?_|refine zq h ?_|refine zp rfl ?_|refine zq rfl ?_);conv=>whnf))
  refine W_ret ⟨.inr rfl,.one (.p _ _ _ (.cons (.v _ _ (congrArg Value.bool ?_)) .nil))⟩
  have h:(op == 1) = true:=h
  show true = usesK op
  unfold usesK
  rw [h]
  rfl
theorem usesS_valid:Valid Tryz.prog 104 (useCon usesS):=by
 refine valid_intro (ts:=[2]) (useCon usesS) Tryz.func104 rfl rfl rfl (by decide) (fun _=>Nat.le_of_ble_eq_true rfl) ?_
 rintro (op:Int) - nm nx
 ((conv=>whnf);repeat'((first|refine zo T rfl ?_|refine zl ?_);conv=>whnf))
 exact W_ret ⟨.inr rfl,.one (.p _ _ _ (.cons (.v _ _ rfl) .nil))⟩
theorem usesB_valid:Valid Tryz.prog 69 (useCon usesB):=by
 refine valid_intro (ts:=[2]) (useCon usesB) Tryz.func69 rfl rfl rfl (by decide) (fun _=>Nat.le_of_ble_eq_true rfl) ?_
 rintro (op:Int) - nm nx
 ((conv=>whnf);repeat'((first|refine zo T rfl ?_|refine zl ?_);conv=>whnf))
 exact W_ret ⟨.inr rfl,.one (.p _ _ _ (.cons (.v _ _ rfl) .nil))⟩
theorem usesV_valid:Valid Tryz.prog 105 (useCon usesV):=by
 refine valid_intro (ts:=[2]) (useCon usesV) Tryz.func105 rfl rfl rfl (by decide) (fun _=>Nat.le_of_ble_eq_true rfl) ?_
 rintro (op:Int) - nm nx
 ((conv=>whnf);repeat'((first|refine zo T rfl ?_|refine zl ?_);conv=>whnf))
 refine ⟨fun h=>?_,fun h=>?_⟩
 ·(repeat'((first|refine zo T rfl ?_|refine zl ?_|refine zp h ?_|refine zq h ?_|refine zp rfl ?_|refine zq rfl ?_);conv=>whnf))
  refine ⟨fun h2=>?_,fun h2=>?_⟩
  ·(repeat'((first|refine zo T rfl ?_|refine zl ?_|refine zp h2 ?_|refine zq h2 ?_|refine zp rfl ?_|refine zq rfl ?_);conv=>whnf))
   refine ⟨fun h3=>?_,fun h3=>?_⟩
   ·(repeat'((first|refine zo T rfl ?_|refine zl ?_|refine zp h3 ?_|refine zq h3 ?_|refine zp rfl ?_|refine zq rfl ?_);conv=>whnf))
    refine W_ret ⟨.inr rfl,.one (.p _ _ _ (.cons (.v _ _ (congrArg Value.bool ?_)) .nil))⟩
    show cond (cond (cond (op == 1) true (op == 3)) true (op == 6)) true (op == 7) = usesV op
    unfold usesV
    cases op == 1 <;> cases op == 3 <;> cases op == 6 <;> rfl
   ·(repeat'((first|refine zo T rfl ?_|refine zl ?_|refine zp h3 ?_|refine zq h3 ?_|refine zp rfl ?_|refine zq rfl ?_);conv=>whnf))
    refine W_ret ⟨.inr rfl,.one (.p _ _ _ (.cons (.v _ _ (congrArg Value.bool ?_)) .nil))⟩
    have h3:cond (cond (op == 1) true (op == 3)) true (op == 6) = true:=h3
    show true = usesV op
    unfold usesV
    revert h3
    cases op == 1 <;> cases op == 3 <;> cases op == 6 <;> cases op == 7 <;> decide
  ·(repeat'((first|refine zo T rfl ?_|refine zl ?_|refine zp h2 ?_|refine zq h2 ?_|refine zp rfl ?_|refine zq rfl ?_);conv=>whnf))
   refine W_ret ⟨.inr rfl,.one (.p _ _ _ (.cons (.v _ _ (congrArg Value.bool ?_)) .nil))⟩
   have h2:cond (op == 1) true (op == 3) = true:=h2
   show true = usesV op
   unfold usesV
   revert h2
   cases op == 1 <;> cases op == 3 <;> cases op == 6 <;> cases op == 7 <;> decide
 ·(repeat'((first|refine zo T rfl ?_|refine zl ?_|refine zp h ?_|refine zq h ?_|refine zp rfl ?_|refine zq rfl ?_);conv=>whnf))
  refine W_ret ⟨.inr rfl,.one (.p _ _ _ (.cons (.v _ _ (congrArg Value.bool ?_)) .nil))⟩
  have h:(op == 1) = true:=h
  show true = usesV op
  unfold usesV
  rw [h]
  rfl
end Go.Proofs.YtijldkknhphgcaaGreat.Pv
end

section
/- A node's own form (the document's). No condition. -/
set_option linter.unusedVariables false
set_option linter.unusedSimpArgs false
namespace Go.Proofs.YtijldkknhphgcaaGreat.Pv
open Go.RowKit
def formCon (rok:RtD → Bool):Con:=⟨Nod,fun n=>[(true,rowN n)],fun n=>LsOk n.v,fun _ n=>bl (decide (FormOk rok n)),true⟩
theorem xV {o:Bool} {H:List HB} {x y:Value} (h:x = y):XLe o H (.one (.p false [.v x])) (.one (.p false [.v y])):=.one (.p _ _ _ (.cons (.v _ _ h) .nil))
theorem bEq {b:Bool} {p:Prop} [Decidable p] (h:b = true ↔ p):Value.bool b = Value.bool (decide p):=by
 congr 1
 rw [Bool.eq_iff_iff,decide_eq_true_iff]
 exact h
theorem form1 {rok:RtD → Bool} {a b k s:Int} {v:List RtD}:FormOk rok ⟨1,a,b,k,s,v⟩ ↔ b = 0 ∧ s = 0 ∧ (1 ≤ k ∧ k ≤ 1000) ∧ v.all rok = true:=by simp [FormOk]
theorem form2 {rok:RtD → Bool} {a b k s:Int} {v:List RtD}:FormOk rok ⟨2,a,b,k,s,v⟩ ↔ b = 0 ∧ k = 0 ∧ s = 0 ∧ v.length = 0:=by simp [FormOk]
theorem form3 {rok:RtD → Bool} {a b k s:Int} {v:List RtD}:FormOk rok ⟨3,a,b,k,s,v⟩ ↔ b = 0 ∧ k = 0 ∧ s = 0 ∧ v.length = 1 ∧ v.all rok = true:=by simp [FormOk]
theorem form4 {rok:RtD → Bool} {a b k s:Int} {v:List RtD}:FormOk rok ⟨4,a,b,k,s,v⟩ ↔ k = 0 ∧ s = 0 ∧ v.length = 0:=by simp [FormOk]
theorem form5 {rok:RtD → Bool} {a b k s:Int} {v:List RtD}:FormOk rok ⟨5,a,b,k,s,v⟩ ↔ b = 0 ∧ s = 0 ∧ v.length = 0 ∧ (1 ≤ k ∧ k ≤ 1000):=by simp [FormOk]
theorem form6 {rok:RtD → Bool} {a b k s:Int} {v:List RtD}:FormOk rok ⟨6,a,b,k,s,v⟩ ↔ b = 0 ∧ (1 ≤ k ∧ k ≤ 1000) ∧ (1 ≤ s ∧ s ≤ 1000) ∧ v.all rok = true:=by simp [FormOk]
theorem form7 {rok:RtD → Bool} {a b k s:Int} {v:List RtD}:FormOk rok ⟨7,a,b,k,s,v⟩ ↔ b = 0 ∧ k = 0 ∧ s = 0 ∧ v.length = 4 ∧ v.all rok = true:=by simp [FormOk]
set_option maxHeartbeats 4000000 in
theorem formOk_valid {rok:RtD → Bool} (hr:Valid Tryz.prog 65 (rokCon rok)):Valid Tryz.prog 68 (formCon rok):=by
 refine valid_intro (ts:=[2]) (formCon rok) Tryz.func68 rfl rfl rfl (by decide) (fun _=>Nat.le_of_ble_eq_true rfl) ?_
 rintro ⟨op,a,b,k,s,v⟩ (hp:LsOk v) nm nx
 have hl:(v.map rowR).length = v.length:=List.length_map ..
 ((conv=>whnf);repeat'((first|refine zo T rfl ?_|refine zl ?_);conv=>whnf))
 refine .inl ⟨inCon,(_,_,_),in_valid,trivial,.cons (.same _ _) (.cons (.same _ _) (.cons (.same _ _) .nil)),?_⟩
 ((conv=>whnf);repeat'((first|refine zo T rfl ?_|refine zl ?_);conv=>whnf))
 refine W_cond rfl (fun h=>?_) (fun h=>?_)
 ·((conv=>whnf);repeat'((first|refine zo T rfl ?_|refine zl ?_);conv=>whnf))
  refine W_ret ⟨.inr rfl,xV (no fun hf=>?_)⟩
  have h:(!(decide (1 ≤ op) && decide (op ≤ 7))) = true:=h
  simp at h
  have hf:FormOk rok ⟨op,a,b,k,s,v⟩:=hf
  unfold FormOk at hf
  simp only at hf
  omega
 ·have h:(!(decide (1 ≤ op) && decide (op ≤ 7))) = false:=h
  simp at h
  rcases (by omega:op = 1 ∨ op = 2 ∨ op = 3 ∨ op = 4 ∨ op = 5 ∨ op = 6 ∨ op = 7) with rfl | rfl | rfl | rfl | rfl | rfl | rfl
  ·((conv=>whnf);repeat'((first|refine zo T rfl ?_|refine zl ?_);conv=>whnf))
   refine W_draw T 16 rfl (by kernel_rfl) ?_
   ((conv=>whnf);repeat'((first|refine zo T rfl ?_|refine zl ?_);conv=>whnf))
   refine ⟨useCon usesK,_,usesK_valid,trivial,.cons (.same _ _) .nil,?_⟩
   ((conv=>whnf);repeat'((first|refine zo T rfl ?_|refine zl ?_);conv=>whnf))
   refine ⟨fun h=>?_,fun h=>?_⟩
   rotate_left
   ·(repeat'((first|refine zo T rfl ?_|refine zl ?_|refine zp h ?_|refine zq h ?_|refine zp rfl ?_|refine zq rfl ?_);conv=>whnf))
    refine W_cond rfl (fun _=>?_) (fun h=>by cases h)
    ((conv=>whnf);repeat'((first|refine zo T rfl ?_|refine zl ?_);conv=>whnf))
    refine W_ret ⟨.inr rfl,xV (no fun hf=>?_)⟩
    have hf:=form1.1 hf
    have h:(true != (k != 0)) = true:=h
    simp at h
    omega
   (repeat'((first|refine zo T rfl ?_|refine zl ?_|refine zp h ?_|refine zq h ?_|refine zp rfl ?_|refine zq rfl ?_);conv=>whnf))
   refine ⟨useCon usesS,_,usesS_valid,trivial,.cons (.same _ _) .nil,?_⟩
   (repeat'((first|refine zo T rfl ?_|refine zl ?_|refine zp h ?_|refine zq h ?_|refine zp rfl ?_|refine zq rfl ?_);conv=>whnf))
   refine W_cond rfl (fun h2=>?_) (fun h2=>?_)
   ·have h:(true != (k != 0)) = false:=h
    simp at h
    ((conv=>whnf);repeat'((first|refine zo T rfl ?_|refine zl ?_);conv=>whnf))
    refine W_ret ⟨.inr rfl,xV (no fun hf=>?_)⟩
    have hf:=form1.1 hf
    have h2:(cond (true != (k != 0)) true (false != (s != 0))) = true:=h2
    simp at h2
    omega
   have h2:(cond (true != (k != 0)) true (false != (s != 0))) = false:=h2
   simp at h2
   ((conv=>whnf);repeat'((first|refine zo T rfl ?_|refine zl ?_);conv=>whnf))
   refine .inl ⟨inCon,(_,_,_),in_valid,trivial,.cons (.same _ _) (.cons (.same _ _) (.cons (.same _ _) .nil)),?_⟩
   ((conv=>whnf);repeat'((first|refine zo T rfl ?_|refine zl ?_);conv=>whnf))
   refine ⟨fun h3=>?_,fun h3=>?_⟩
   rotate_left
   ·(repeat'((first|refine zo T rfl ?_|refine zl ?_|refine zp h3 ?_|refine zq h3 ?_|refine zp rfl ?_|refine zq rfl ?_);conv=>whnf))
    refine W_cond rfl (fun _=>?_) (fun h=>by cases h)
    ((conv=>whnf);repeat'((first|refine zo T rfl ?_|refine zl ?_);conv=>whnf))
    refine W_ret ⟨.inr rfl,xV (no fun hf=>?_)⟩
    have hf:=form1.1 hf
    have h3:(!(decide (0 ≤ k) && decide (k ≤ 1000))) = true:=h3
    simp at h3
    omega
   (repeat'((first|refine zo T rfl ?_|refine zl ?_|refine zp h3 ?_|refine zq h3 ?_|refine zp rfl ?_|refine zq rfl ?_);conv=>whnf))
   refine .inl ⟨inCon,(_,_,_),in_valid,trivial,.cons (.same _ _) (.cons (.same _ _) (.cons (.same _ _) .nil)),?_⟩
   (repeat'((first|refine zo T rfl ?_|refine zl ?_|refine zp h3 ?_|refine zq h3 ?_|refine zp rfl ?_|refine zq rfl ?_);conv=>whnf))
   refine W_cond rfl (fun h4=>?_) (fun h4=>?_)
   ·have h3:(!(decide (0 ≤ k) && decide (k ≤ 1000))) = false:=h3
    simp at h3
    ((conv=>whnf);repeat'((first|refine zo T rfl ?_|refine zl ?_);conv=>whnf))
    refine W_ret ⟨.inr rfl,xV (no fun hf=>?_)⟩
    have hf:=form1.1 hf
    have h4:(cond (!(decide (0 ≤ k) && decide (k ≤ 1000))) true (!(decide (0 ≤ s) && decide (s ≤ 1000)))) = true:=h4
    simp at h4
    omega
   have h4:(cond (!(decide (0 ≤ k) && decide (k ≤ 1000))) true (!(decide (0 ≤ s) && decide (s ≤ 1000)))) = false:=h4
   simp at h4
   ((conv=>whnf);repeat'((first|refine zo T rfl ?_|refine zl ?_);conv=>whnf))
   refine .inl ⟨useCon usesB,_,usesB_valid,trivial,.cons (.same _ _) .nil,?_⟩
   (repeat'((first|refine zo T rfl ?_|refine zl ?_|refine zp h4 ?_|refine zq h4 ?_|refine zp rfl ?_|refine zq rfl ?_);conv=>whnf))
   refine W_cond rfl (fun h5=>?_) (fun h5=>?_)
   ·((conv=>whnf);repeat'((first|refine zo T rfl ?_|refine zl ?_);conv=>whnf))
    refine W_ret ⟨.inr rfl,xV (no fun hf=>?_)⟩
    have hf:=form1.1 hf
    have h5:(b != 0) = true:=h5
    have h5:=bne_iff_ne.1 h5
    omega
   have h5:(b != 0) = false:=h5
   have h5:=bne_eq_false_iff_eq.1 h5
   ((conv=>whnf);repeat'((first|refine zo T rfl ?_|refine zl ?_);conv=>whnf))
   refine .inl ⟨useCon usesV,_,usesV_valid,trivial,.cons (.same _ _) .nil,?_⟩
   (repeat'((first|refine zo T rfl ?_|refine zl ?_|refine zp h4 ?_|refine zq h4 ?_|refine zp rfl ?_|refine zq rfl ?_);conv=>whnf))
   refine W_cond rfl (fun h=>by cases h) (fun _=>?_)
   (repeat'((first|refine zo T rfl ?_|refine zl ?_|refine zp h4 ?_|refine zq h4 ?_|refine zp rfl ?_|refine zq rfl ?_);conv=>whnf))
   refine W_cond rfl (fun h=>by cases h) (fun _=>?_)
   (repeat'((first|refine zo T rfl ?_|refine zl ?_|refine zp h4 ?_|refine zq h4 ?_|refine zp rfl ?_|refine zq rfl ?_);conv=>whnf))
   refine W_cond rfl (fun h=>by cases h) (fun _=>?_)
   (repeat'((first|refine zo T rfl ?_|refine zl ?_|refine zp h4 ?_|refine zq h4 ?_|refine zp rfl ?_|refine zq rfl ?_);conv=>whnf))
   refine .inl ⟨allCon rok,v,allOk_valid hr,hp,.cons (.same _ _) .nil,?_⟩
   ((conv=>whnf);repeat'((first|refine zo T rfl ?_|refine zl ?_);conv=>whnf))
   refine W_ret ⟨.inr rfl,xV (bEq ?_)⟩
   show v.all rok = true ↔ FormOk rok ⟨1,a,b,k,s,v⟩
   rw [form1]
   exact ⟨fun hv=>⟨by omega,by omega,by omega,hv⟩,fun hf=>hf.2.2.2⟩
  ·((conv=>whnf);repeat'((first|refine zo T rfl ?_|refine zl ?_);conv=>whnf))
   refine W_draw T 16 rfl (by kernel_rfl) ?_
   ((conv=>whnf);repeat'((first|refine zo T rfl ?_|refine zl ?_);conv=>whnf))
   refine ⟨useCon usesK,_,usesK_valid,trivial,.cons (.same _ _) .nil,?_⟩
   ((conv=>whnf);repeat'((first|refine zo T rfl ?_|refine zl ?_);conv=>whnf))
   refine ⟨fun h=>?_,fun h=>?_⟩
   rotate_left
   ·(repeat'((first|refine zo T rfl ?_|refine zl ?_|refine zp h ?_|refine zq h ?_|refine zp rfl ?_|refine zq rfl ?_);conv=>whnf))
    refine W_cond rfl (fun _=>?_) (fun h=>by cases h)
    ((conv=>whnf);repeat'((first|refine zo T rfl ?_|refine zl ?_);conv=>whnf))
    refine W_ret ⟨.inr rfl,xV (no fun hf=>?_)⟩
    have hf:=form2.1 hf
    have h:(false != (k != 0)) = true:=h
    simp at h
    omega
   (repeat'((first|refine zo T rfl ?_|refine zl ?_|refine zp h ?_|refine zq h ?_|refine zp rfl ?_|refine zq rfl ?_);conv=>whnf))
   refine ⟨useCon usesS,_,usesS_valid,trivial,.cons (.same _ _) .nil,?_⟩
   (repeat'((first|refine zo T rfl ?_|refine zl ?_|refine zp h ?_|refine zq h ?_|refine zp rfl ?_|refine zq rfl ?_);conv=>whnf))
   refine W_cond rfl (fun h2=>?_) (fun h2=>?_)
   ·have h:(false != (k != 0)) = false:=h
    simp at h
    ((conv=>whnf);repeat'((first|refine zo T rfl ?_|refine zl ?_);conv=>whnf))
    refine W_ret ⟨.inr rfl,xV (no fun hf=>?_)⟩
    have hf:=form2.1 hf
    have h2:(cond (false != (k != 0)) true (false != (s != 0))) = true:=h2
    simp at h2
    omega
   have h2:(cond (false != (k != 0)) true (false != (s != 0))) = false:=h2
   simp at h2
   ((conv=>whnf);repeat'((first|refine zo T rfl ?_|refine zl ?_);conv=>whnf))
   refine .inl ⟨inCon,(_,_,_),in_valid,trivial,.cons (.same _ _) (.cons (.same _ _) (.cons (.same _ _) .nil)),?_⟩
   ((conv=>whnf);repeat'((first|refine zo T rfl ?_|refine zl ?_);conv=>whnf))
   refine ⟨fun h3=>?_,fun h3=>?_⟩
   rotate_left
   ·(repeat'((first|refine zo T rfl ?_|refine zl ?_|refine zp h3 ?_|refine zq h3 ?_|refine zp rfl ?_|refine zq rfl ?_);conv=>whnf))
    refine W_cond rfl (fun _=>?_) (fun h=>by cases h)
    ((conv=>whnf);repeat'((first|refine zo T rfl ?_|refine zl ?_);conv=>whnf))
    refine W_ret ⟨.inr rfl,xV (no fun hf=>?_)⟩
    have hf:=form2.1 hf
    have h3:(!(decide (0 ≤ k) && decide (k ≤ 1000))) = true:=h3
    simp at h3
    omega
   (repeat'((first|refine zo T rfl ?_|refine zl ?_|refine zp h3 ?_|refine zq h3 ?_|refine zp rfl ?_|refine zq rfl ?_);conv=>whnf))
   refine .inl ⟨inCon,(_,_,_),in_valid,trivial,.cons (.same _ _) (.cons (.same _ _) (.cons (.same _ _) .nil)),?_⟩
   (repeat'((first|refine zo T rfl ?_|refine zl ?_|refine zp h3 ?_|refine zq h3 ?_|refine zp rfl ?_|refine zq rfl ?_);conv=>whnf))
   refine W_cond rfl (fun h4=>?_) (fun h4=>?_)
   ·have h3:(!(decide (0 ≤ k) && decide (k ≤ 1000))) = false:=h3
    simp at h3
    ((conv=>whnf);repeat'((first|refine zo T rfl ?_|refine zl ?_);conv=>whnf))
    refine W_ret ⟨.inr rfl,xV (no fun hf=>?_)⟩
    have hf:=form2.1 hf
    have h4:(cond (!(decide (0 ≤ k) && decide (k ≤ 1000))) true (!(decide (0 ≤ s) && decide (s ≤ 1000)))) = true:=h4
    simp at h4
    omega
   have h4:(cond (!(decide (0 ≤ k) && decide (k ≤ 1000))) true (!(decide (0 ≤ s) && decide (s ≤ 1000)))) = false:=h4
   simp at h4
   ((conv=>whnf);repeat'((first|refine zo T rfl ?_|refine zl ?_);conv=>whnf))
   refine .inl ⟨useCon usesB,_,usesB_valid,trivial,.cons (.same _ _) .nil,?_⟩
   (repeat'((first|refine zo T rfl ?_|refine zl ?_|refine zp h4 ?_|refine zq h4 ?_|refine zp rfl ?_|refine zq rfl ?_);conv=>whnf))
   refine W_cond rfl (fun h5=>?_) (fun h5=>?_)
   ·((conv=>whnf);repeat'((first|refine zo T rfl ?_|refine zl ?_);conv=>whnf))
    refine W_ret ⟨.inr rfl,xV (no fun hf=>?_)⟩
    have hf:=form2.1 hf
    have h5:(b != 0) = true:=h5
    have h5:=bne_iff_ne.1 h5
    omega
   have h5:(b != 0) = false:=h5
   have h5:=bne_eq_false_iff_eq.1 h5
   ((conv=>whnf);repeat'((first|refine zo T rfl ?_|refine zl ?_);conv=>whnf))
   refine .inl ⟨useCon usesV,_,usesV_valid,trivial,.cons (.same _ _) .nil,?_⟩
   (repeat'((first|refine zo T rfl ?_|refine zl ?_|refine zp h4 ?_|refine zq h4 ?_|refine zp rfl ?_|refine zq rfl ?_);conv=>whnf))
   refine W_cond rfl (fun h6=>?_) (fun h6=>?_)
   ·((conv=>whnf);repeat'((first|refine zo T rfl ?_|refine zl ?_);conv=>whnf))
    refine W_ret ⟨.inr rfl,xV (no fun hf=>?_)⟩
    have hf:=form2.1 hf
    have h6:(((v.map rowR).length:Int) != 0) = true:=h6
    have h6:=bne_iff_ne.1 h6
    omega
   have h6:(((v.map rowR).length:Int) != 0) = false:=h6
   have h6:=bne_eq_false_iff_eq.1 h6
   (repeat'((first|refine zo T rfl ?_|refine zl ?_|refine zp h4 ?_|refine zq h4 ?_|refine zp rfl ?_|refine zq rfl ?_);conv=>whnf))
   refine W_cond rfl (fun h=>by cases h) (fun _=>?_)
   (repeat'((first|refine zo T rfl ?_|refine zl ?_|refine zp h4 ?_|refine zq h4 ?_|refine zp rfl ?_|refine zq rfl ?_);conv=>whnf))
   refine W_cond rfl (fun h=>by cases h) (fun _=>?_)
   (repeat'((first|refine zo T rfl ?_|refine zl ?_|refine zp h4 ?_|refine zq h4 ?_|refine zp rfl ?_|refine zq rfl ?_);conv=>whnf))
   refine .inl ⟨allCon rok,v,allOk_valid hr,hp,.cons (.same _ _) .nil,?_⟩
   ((conv=>whnf);repeat'((first|refine zo T rfl ?_|refine zl ?_);conv=>whnf))
   refine W_ret ⟨.inr rfl,xV (bEq ?_)⟩
   show v.all rok = true ↔ FormOk rok ⟨2,a,b,k,s,v⟩
   rw [form2]
   have hv:v = []:=List.eq_nil_of_length_eq_zero (by omega)
   subst hv
   exact ⟨fun _=>⟨by omega,by omega,by omega,rfl⟩,fun _=>rfl⟩
  ·((conv=>whnf);repeat'((first|refine zo T rfl ?_|refine zl ?_);conv=>whnf))
   refine W_draw T 16 rfl (by kernel_rfl) ?_
   ((conv=>whnf);repeat'((first|refine zo T rfl ?_|refine zl ?_);conv=>whnf))
   refine ⟨useCon usesK,_,usesK_valid,trivial,.cons (.same _ _) .nil,?_⟩
   ((conv=>whnf);repeat'((first|refine zo T rfl ?_|refine zl ?_);conv=>whnf))
   refine ⟨fun h=>?_,fun h=>?_⟩
   rotate_left
   ·(repeat'((first|refine zo T rfl ?_|refine zl ?_|refine zp h ?_|refine zq h ?_|refine zp rfl ?_|refine zq rfl ?_);conv=>whnf))
    refine W_cond rfl (fun _=>?_) (fun h=>by cases h)
    ((conv=>whnf);repeat'((first|refine zo T rfl ?_|refine zl ?_);conv=>whnf))
    refine W_ret ⟨.inr rfl,xV (no fun hf=>?_)⟩
    have hf:=form3.1 hf
    have h:(false != (k != 0)) = true:=h
    simp at h
    omega
   (repeat'((first|refine zo T rfl ?_|refine zl ?_|refine zp h ?_|refine zq h ?_|refine zp rfl ?_|refine zq rfl ?_);conv=>whnf))
   refine ⟨useCon usesS,_,usesS_valid,trivial,.cons (.same _ _) .nil,?_⟩
   (repeat'((first|refine zo T rfl ?_|refine zl ?_|refine zp h ?_|refine zq h ?_|refine zp rfl ?_|refine zq rfl ?_);conv=>whnf))
   refine W_cond rfl (fun h2=>?_) (fun h2=>?_)
   ·have h:(false != (k != 0)) = false:=h
    simp at h
    ((conv=>whnf);repeat'((first|refine zo T rfl ?_|refine zl ?_);conv=>whnf))
    refine W_ret ⟨.inr rfl,xV (no fun hf=>?_)⟩
    have hf:=form3.1 hf
    have h2:(cond (false != (k != 0)) true (false != (s != 0))) = true:=h2
    simp at h2
    omega
   have h2:(cond (false != (k != 0)) true (false != (s != 0))) = false:=h2
   simp at h2
   ((conv=>whnf);repeat'((first|refine zo T rfl ?_|refine zl ?_);conv=>whnf))
   refine .inl ⟨inCon,(_,_,_),in_valid,trivial,.cons (.same _ _) (.cons (.same _ _) (.cons (.same _ _) .nil)),?_⟩
   ((conv=>whnf);repeat'((first|refine zo T rfl ?_|refine zl ?_);conv=>whnf))
   refine ⟨fun h3=>?_,fun h3=>?_⟩
   rotate_left
   ·(repeat'((first|refine zo T rfl ?_|refine zl ?_|refine zp h3 ?_|refine zq h3 ?_|refine zp rfl ?_|refine zq rfl ?_);conv=>whnf))
    refine W_cond rfl (fun _=>?_) (fun h=>by cases h)
    ((conv=>whnf);repeat'((first|refine zo T rfl ?_|refine zl ?_);conv=>whnf))
    refine W_ret ⟨.inr rfl,xV (no fun hf=>?_)⟩
    have hf:=form3.1 hf
    have h3:(!(decide (0 ≤ k) && decide (k ≤ 1000))) = true:=h3
    simp at h3
    omega
   (repeat'((first|refine zo T rfl ?_|refine zl ?_|refine zp h3 ?_|refine zq h3 ?_|refine zp rfl ?_|refine zq rfl ?_);conv=>whnf))
   refine .inl ⟨inCon,(_,_,_),in_valid,trivial,.cons (.same _ _) (.cons (.same _ _) (.cons (.same _ _) .nil)),?_⟩
   (repeat'((first|refine zo T rfl ?_|refine zl ?_|refine zp h3 ?_|refine zq h3 ?_|refine zp rfl ?_|refine zq rfl ?_);conv=>whnf))
   refine W_cond rfl (fun h4=>?_) (fun h4=>?_)
   ·have h3:(!(decide (0 ≤ k) && decide (k ≤ 1000))) = false:=h3
    simp at h3
    ((conv=>whnf);repeat'((first|refine zo T rfl ?_|refine zl ?_);conv=>whnf))
    refine W_ret ⟨.inr rfl,xV (no fun hf=>?_)⟩
    have hf:=form3.1 hf
    have h4:(cond (!(decide (0 ≤ k) && decide (k ≤ 1000))) true (!(decide (0 ≤ s) && decide (s ≤ 1000)))) = true:=h4
    simp at h4
    omega
   have h4:(cond (!(decide (0 ≤ k) && decide (k ≤ 1000))) true (!(decide (0 ≤ s) && decide (s ≤ 1000)))) = false:=h4
   simp at h4
   ((conv=>whnf);repeat'((first|refine zo T rfl ?_|refine zl ?_);conv=>whnf))
   refine .inl ⟨useCon usesB,_,usesB_valid,trivial,.cons (.same _ _) .nil,?_⟩
   (repeat'((first|refine zo T rfl ?_|refine zl ?_|refine zp h4 ?_|refine zq h4 ?_|refine zp rfl ?_|refine zq rfl ?_);conv=>whnf))
   refine W_cond rfl (fun h5=>?_) (fun h5=>?_)
   ·((conv=>whnf);repeat'((first|refine zo T rfl ?_|refine zl ?_);conv=>whnf))
    refine W_ret ⟨.inr rfl,xV (no fun hf=>?_)⟩
    have hf:=form3.1 hf
    have h5:(b != 0) = true:=h5
    have h5:=bne_iff_ne.1 h5
    omega
   have h5:(b != 0) = false:=h5
   have h5:=bne_eq_false_iff_eq.1 h5
   ((conv=>whnf);repeat'((first|refine zo T rfl ?_|refine zl ?_);conv=>whnf))
   refine .inl ⟨useCon usesV,_,usesV_valid,trivial,.cons (.same _ _) .nil,?_⟩
   (repeat'((first|refine zo T rfl ?_|refine zl ?_|refine zp h4 ?_|refine zq h4 ?_|refine zp rfl ?_|refine zq rfl ?_);conv=>whnf))
   refine W_cond rfl (fun h=>by cases h) (fun _=>?_)
   (repeat'((first|refine zo T rfl ?_|refine zl ?_|refine zp h4 ?_|refine zq h4 ?_|refine zp rfl ?_|refine zq rfl ?_);conv=>whnf))
   refine W_cond rfl (fun h7=>?_) (fun h7=>?_)
   ·((conv=>whnf);repeat'((first|refine zo T rfl ?_|refine zl ?_);conv=>whnf))
    refine W_ret ⟨.inr rfl,xV (no fun hf=>?_)⟩
    have hf:=form3.1 hf
    have h7:(((v.map rowR).length:Int) != 1) = true:=h7
    have h7:=bne_iff_ne.1 h7
    omega
   have h7:(((v.map rowR).length:Int) != 1) = false:=h7
   have h7:=bne_eq_false_iff_eq.1 h7
   (repeat'((first|refine zo T rfl ?_|refine zl ?_|refine zp h4 ?_|refine zq h4 ?_|refine zp rfl ?_|refine zq rfl ?_);conv=>whnf))
   refine W_cond rfl (fun h=>by cases h) (fun _=>?_)
   (repeat'((first|refine zo T rfl ?_|refine zl ?_|refine zp h4 ?_|refine zq h4 ?_|refine zp rfl ?_|refine zq rfl ?_);conv=>whnf))
   refine .inl ⟨allCon rok,v,allOk_valid hr,hp,.cons (.same _ _) .nil,?_⟩
   ((conv=>whnf);repeat'((first|refine zo T rfl ?_|refine zl ?_);conv=>whnf))
   refine W_ret ⟨.inr rfl,xV (bEq ?_)⟩
   show v.all rok = true ↔ FormOk rok ⟨3,a,b,k,s,v⟩
   rw [form3]
   exact ⟨fun hv=>⟨by omega,by omega,by omega,by omega,hv⟩,fun hf=>hf.2.2.2.2⟩
  ·((conv=>whnf);repeat'((first|refine zo T rfl ?_|refine zl ?_);conv=>whnf))
   refine W_draw T 16 rfl (by kernel_rfl) ?_
   ((conv=>whnf);repeat'((first|refine zo T rfl ?_|refine zl ?_);conv=>whnf))
   refine ⟨useCon usesK,_,usesK_valid,trivial,.cons (.same _ _) .nil,?_⟩
   ((conv=>whnf);repeat'((first|refine zo T rfl ?_|refine zl ?_);conv=>whnf))
   refine ⟨fun h=>?_,fun h=>?_⟩
   rotate_left
   ·(repeat'((first|refine zo T rfl ?_|refine zl ?_|refine zp h ?_|refine zq h ?_|refine zp rfl ?_|refine zq rfl ?_);conv=>whnf))
    refine W_cond rfl (fun _=>?_) (fun h=>by cases h)
    ((conv=>whnf);repeat'((first|refine zo T rfl ?_|refine zl ?_);conv=>whnf))
    refine W_ret ⟨.inr rfl,xV (no fun hf=>?_)⟩
    have hf:=form4.1 hf
    have h:(false != (k != 0)) = true:=h
    simp at h
    omega
   (repeat'((first|refine zo T rfl ?_|refine zl ?_|refine zp h ?_|refine zq h ?_|refine zp rfl ?_|refine zq rfl ?_);conv=>whnf))
   refine ⟨useCon usesS,_,usesS_valid,trivial,.cons (.same _ _) .nil,?_⟩
   (repeat'((first|refine zo T rfl ?_|refine zl ?_|refine zp h ?_|refine zq h ?_|refine zp rfl ?_|refine zq rfl ?_);conv=>whnf))
   refine W_cond rfl (fun h2=>?_) (fun h2=>?_)
   ·have h:(false != (k != 0)) = false:=h
    simp at h
    ((conv=>whnf);repeat'((first|refine zo T rfl ?_|refine zl ?_);conv=>whnf))
    refine W_ret ⟨.inr rfl,xV (no fun hf=>?_)⟩
    have hf:=form4.1 hf
    have h2:(cond (false != (k != 0)) true (false != (s != 0))) = true:=h2
    simp at h2
    omega
   have h2:(cond (false != (k != 0)) true (false != (s != 0))) = false:=h2
   simp at h2
   ((conv=>whnf);repeat'((first|refine zo T rfl ?_|refine zl ?_);conv=>whnf))
   refine .inl ⟨inCon,(_,_,_),in_valid,trivial,.cons (.same _ _) (.cons (.same _ _) (.cons (.same _ _) .nil)),?_⟩
   ((conv=>whnf);repeat'((first|refine zo T rfl ?_|refine zl ?_);conv=>whnf))
   refine ⟨fun h3=>?_,fun h3=>?_⟩
   rotate_left
   ·(repeat'((first|refine zo T rfl ?_|refine zl ?_|refine zp h3 ?_|refine zq h3 ?_|refine zp rfl ?_|refine zq rfl ?_);conv=>whnf))
    refine W_cond rfl (fun _=>?_) (fun h=>by cases h)
    ((conv=>whnf);repeat'((first|refine zo T rfl ?_|refine zl ?_);conv=>whnf))
    refine W_ret ⟨.inr rfl,xV (no fun hf=>?_)⟩
    have hf:=form4.1 hf
    have h3:(!(decide (0 ≤ k) && decide (k ≤ 1000))) = true:=h3
    simp at h3
    omega
   (repeat'((first|refine zo T rfl ?_|refine zl ?_|refine zp h3 ?_|refine zq h3 ?_|refine zp rfl ?_|refine zq rfl ?_);conv=>whnf))
   refine .inl ⟨inCon,(_,_,_),in_valid,trivial,.cons (.same _ _) (.cons (.same _ _) (.cons (.same _ _) .nil)),?_⟩
   (repeat'((first|refine zo T rfl ?_|refine zl ?_|refine zp h3 ?_|refine zq h3 ?_|refine zp rfl ?_|refine zq rfl ?_);conv=>whnf))
   refine W_cond rfl (fun h4=>?_) (fun h4=>?_)
   ·have h3:(!(decide (0 ≤ k) && decide (k ≤ 1000))) = false:=h3
    simp at h3
    ((conv=>whnf);repeat'((first|refine zo T rfl ?_|refine zl ?_);conv=>whnf))
    refine W_ret ⟨.inr rfl,xV (no fun hf=>?_)⟩
    have hf:=form4.1 hf
    have h4:(cond (!(decide (0 ≤ k) && decide (k ≤ 1000))) true (!(decide (0 ≤ s) && decide (s ≤ 1000)))) = true:=h4
    simp at h4
    omega
   have h4:(cond (!(decide (0 ≤ k) && decide (k ≤ 1000))) true (!(decide (0 ≤ s) && decide (s ≤ 1000)))) = false:=h4
   simp at h4
   ((conv=>whnf);repeat'((first|refine zo T rfl ?_|refine zl ?_);conv=>whnf))
   refine .inl ⟨useCon usesB,_,usesB_valid,trivial,.cons (.same _ _) .nil,?_⟩
   (repeat'((first|refine zo T rfl ?_|refine zl ?_|refine zp h4 ?_|refine zq h4 ?_|refine zp rfl ?_|refine zq rfl ?_);conv=>whnf))
   refine W_cond rfl (fun h=>by cases h) (fun _=>?_)
   ((conv=>whnf);repeat'((first|refine zo T rfl ?_|refine zl ?_);conv=>whnf))
   refine .inl ⟨useCon usesV,_,usesV_valid,trivial,.cons (.same _ _) .nil,?_⟩
   (repeat'((first|refine zo T rfl ?_|refine zl ?_|refine zp h4 ?_|refine zq h4 ?_|refine zp rfl ?_|refine zq rfl ?_);conv=>whnf))
   refine W_cond rfl (fun h6=>?_) (fun h6=>?_)
   ·((conv=>whnf);repeat'((first|refine zo T rfl ?_|refine zl ?_);conv=>whnf))
    refine W_ret ⟨.inr rfl,xV (no fun hf=>?_)⟩
    have hf:=form4.1 hf
    have h6:(((v.map rowR).length:Int) != 0) = true:=h6
    have h6:=bne_iff_ne.1 h6
    omega
   have h6:(((v.map rowR).length:Int) != 0) = false:=h6
   have h6:=bne_eq_false_iff_eq.1 h6
   (repeat'((first|refine zo T rfl ?_|refine zl ?_|refine zp h4 ?_|refine zq h4 ?_|refine zp rfl ?_|refine zq rfl ?_);conv=>whnf))
   refine W_cond rfl (fun h=>by cases h) (fun _=>?_)
   (repeat'((first|refine zo T rfl ?_|refine zl ?_|refine zp h4 ?_|refine zq h4 ?_|refine zp rfl ?_|refine zq rfl ?_);conv=>whnf))
   refine W_cond rfl (fun h=>by cases h) (fun _=>?_)
   (repeat'((first|refine zo T rfl ?_|refine zl ?_|refine zp h4 ?_|refine zq h4 ?_|refine zp rfl ?_|refine zq rfl ?_);conv=>whnf))
   refine .inl ⟨allCon rok,v,allOk_valid hr,hp,.cons (.same _ _) .nil,?_⟩
   ((conv=>whnf);repeat'((first|refine zo T rfl ?_|refine zl ?_);conv=>whnf))
   refine W_ret ⟨.inr rfl,xV (bEq ?_)⟩
   show v.all rok = true ↔ FormOk rok ⟨4,a,b,k,s,v⟩
   rw [form4]
   have hv:v = []:=List.eq_nil_of_length_eq_zero (by omega)
   subst hv
   exact ⟨fun _=>⟨by omega,by omega,rfl⟩,fun _=>rfl⟩
  ·((conv=>whnf);repeat'((first|refine zo T rfl ?_|refine zl ?_);conv=>whnf))
   refine W_draw T 16 rfl (by kernel_rfl) ?_
   ((conv=>whnf);repeat'((first|refine zo T rfl ?_|refine zl ?_);conv=>whnf))
   refine ⟨useCon usesK,_,usesK_valid,trivial,.cons (.same _ _) .nil,?_⟩
   ((conv=>whnf);repeat'((first|refine zo T rfl ?_|refine zl ?_);conv=>whnf))
   refine ⟨fun h=>?_,fun h=>?_⟩
   rotate_left
   ·(repeat'((first|refine zo T rfl ?_|refine zl ?_|refine zp h ?_|refine zq h ?_|refine zp rfl ?_|refine zq rfl ?_);conv=>whnf))
    refine W_cond rfl (fun _=>?_) (fun h=>by cases h)
    ((conv=>whnf);repeat'((first|refine zo T rfl ?_|refine zl ?_);conv=>whnf))
    refine W_ret ⟨.inr rfl,xV (no fun hf=>?_)⟩
    have hf:=form5.1 hf
    have h:(true != (k != 0)) = true:=h
    simp at h
    omega
   (repeat'((first|refine zo T rfl ?_|refine zl ?_|refine zp h ?_|refine zq h ?_|refine zp rfl ?_|refine zq rfl ?_);conv=>whnf))
   refine ⟨useCon usesS,_,usesS_valid,trivial,.cons (.same _ _) .nil,?_⟩
   (repeat'((first|refine zo T rfl ?_|refine zl ?_|refine zp h ?_|refine zq h ?_|refine zp rfl ?_|refine zq rfl ?_);conv=>whnf))
   refine W_cond rfl (fun h2=>?_) (fun h2=>?_)
   ·have h:(true != (k != 0)) = false:=h
    simp at h
    ((conv=>whnf);repeat'((first|refine zo T rfl ?_|refine zl ?_);conv=>whnf))
    refine W_ret ⟨.inr rfl,xV (no fun hf=>?_)⟩
    have hf:=form5.1 hf
    have h2:(cond (true != (k != 0)) true (false != (s != 0))) = true:=h2
    simp at h2
    omega
   have h2:(cond (true != (k != 0)) true (false != (s != 0))) = false:=h2
   simp at h2
   ((conv=>whnf);repeat'((first|refine zo T rfl ?_|refine zl ?_);conv=>whnf))
   refine .inl ⟨inCon,(_,_,_),in_valid,trivial,.cons (.same _ _) (.cons (.same _ _) (.cons (.same _ _) .nil)),?_⟩
   ((conv=>whnf);repeat'((first|refine zo T rfl ?_|refine zl ?_);conv=>whnf))
   refine ⟨fun h3=>?_,fun h3=>?_⟩
   rotate_left
   ·(repeat'((first|refine zo T rfl ?_|refine zl ?_|refine zp h3 ?_|refine zq h3 ?_|refine zp rfl ?_|refine zq rfl ?_);conv=>whnf))
    refine W_cond rfl (fun _=>?_) (fun h=>by cases h)
    ((conv=>whnf);repeat'((first|refine zo T rfl ?_|refine zl ?_);conv=>whnf))
    refine W_ret ⟨.inr rfl,xV (no fun hf=>?_)⟩
    have hf:=form5.1 hf
    have h3:(!(decide (0 ≤ k) && decide (k ≤ 1000))) = true:=h3
    simp at h3
    omega
   (repeat'((first|refine zo T rfl ?_|refine zl ?_|refine zp h3 ?_|refine zq h3 ?_|refine zp rfl ?_|refine zq rfl ?_);conv=>whnf))
   refine .inl ⟨inCon,(_,_,_),in_valid,trivial,.cons (.same _ _) (.cons (.same _ _) (.cons (.same _ _) .nil)),?_⟩
   (repeat'((first|refine zo T rfl ?_|refine zl ?_|refine zp h3 ?_|refine zq h3 ?_|refine zp rfl ?_|refine zq rfl ?_);conv=>whnf))
   refine W_cond rfl (fun h4=>?_) (fun h4=>?_)
   ·have h3:(!(decide (0 ≤ k) && decide (k ≤ 1000))) = false:=h3
    simp at h3
    ((conv=>whnf);repeat'((first|refine zo T rfl ?_|refine zl ?_);conv=>whnf))
    refine W_ret ⟨.inr rfl,xV (no fun hf=>?_)⟩
    have hf:=form5.1 hf
    have h4:(cond (!(decide (0 ≤ k) && decide (k ≤ 1000))) true (!(decide (0 ≤ s) && decide (s ≤ 1000)))) = true:=h4
    simp at h4
    omega
   have h4:(cond (!(decide (0 ≤ k) && decide (k ≤ 1000))) true (!(decide (0 ≤ s) && decide (s ≤ 1000)))) = false:=h4
   simp at h4
   ((conv=>whnf);repeat'((first|refine zo T rfl ?_|refine zl ?_);conv=>whnf))
   refine .inl ⟨useCon usesB,_,usesB_valid,trivial,.cons (.same _ _) .nil,?_⟩
   (repeat'((first|refine zo T rfl ?_|refine zl ?_|refine zp h4 ?_|refine zq h4 ?_|refine zp rfl ?_|refine zq rfl ?_);conv=>whnf))
   refine W_cond rfl (fun h5=>?_) (fun h5=>?_)
   ·((conv=>whnf);repeat'((first|refine zo T rfl ?_|refine zl ?_);conv=>whnf))
    refine W_ret ⟨.inr rfl,xV (no fun hf=>?_)⟩
    have hf:=form5.1 hf
    have h5:(b != 0) = true:=h5
    have h5:=bne_iff_ne.1 h5
    omega
   have h5:(b != 0) = false:=h5
   have h5:=bne_eq_false_iff_eq.1 h5
   ((conv=>whnf);repeat'((first|refine zo T rfl ?_|refine zl ?_);conv=>whnf))
   refine .inl ⟨useCon usesV,_,usesV_valid,trivial,.cons (.same _ _) .nil,?_⟩
   (repeat'((first|refine zo T rfl ?_|refine zl ?_|refine zp h4 ?_|refine zq h4 ?_|refine zp rfl ?_|refine zq rfl ?_);conv=>whnf))
   refine W_cond rfl (fun h6=>?_) (fun h6=>?_)
   ·((conv=>whnf);repeat'((first|refine zo T rfl ?_|refine zl ?_);conv=>whnf))
    refine W_ret ⟨.inr rfl,xV (no fun hf=>?_)⟩
    have hf:=form5.1 hf
    have h6:(((v.map rowR).length:Int) != 0) = true:=h6
    have h6:=bne_iff_ne.1 h6
    omega
   have h6:(((v.map rowR).length:Int) != 0) = false:=h6
   have h6:=bne_eq_false_iff_eq.1 h6
   (repeat'((first|refine zo T rfl ?_|refine zl ?_|refine zp h4 ?_|refine zq h4 ?_|refine zp rfl ?_|refine zq rfl ?_);conv=>whnf))
   refine W_cond rfl (fun h=>by cases h) (fun _=>?_)
   (repeat'((first|refine zo T rfl ?_|refine zl ?_|refine zp h4 ?_|refine zq h4 ?_|refine zp rfl ?_|refine zq rfl ?_);conv=>whnf))
   refine W_cond rfl (fun h=>by cases h) (fun _=>?_)
   (repeat'((first|refine zo T rfl ?_|refine zl ?_|refine zp h4 ?_|refine zq h4 ?_|refine zp rfl ?_|refine zq rfl ?_);conv=>whnf))
   refine .inl ⟨allCon rok,v,allOk_valid hr,hp,.cons (.same _ _) .nil,?_⟩
   ((conv=>whnf);repeat'((first|refine zo T rfl ?_|refine zl ?_);conv=>whnf))
   refine W_ret ⟨.inr rfl,xV (bEq ?_)⟩
   show v.all rok = true ↔ FormOk rok ⟨5,a,b,k,s,v⟩
   rw [form5]
   have hv:v = []:=List.eq_nil_of_length_eq_zero (by omega)
   subst hv
   exact ⟨fun _=>⟨by omega,by omega,rfl,by omega⟩,fun _=>rfl⟩
  ·((conv=>whnf);repeat'((first|refine zo T rfl ?_|refine zl ?_);conv=>whnf))
   refine W_draw T 16 rfl (by kernel_rfl) ?_
   ((conv=>whnf);repeat'((first|refine zo T rfl ?_|refine zl ?_);conv=>whnf))
   refine ⟨useCon usesK,_,usesK_valid,trivial,.cons (.same _ _) .nil,?_⟩
   ((conv=>whnf);repeat'((first|refine zo T rfl ?_|refine zl ?_);conv=>whnf))
   refine ⟨fun h=>?_,fun h=>?_⟩
   rotate_left
   ·(repeat'((first|refine zo T rfl ?_|refine zl ?_|refine zp h ?_|refine zq h ?_|refine zp rfl ?_|refine zq rfl ?_);conv=>whnf))
    refine W_cond rfl (fun _=>?_) (fun h=>by cases h)
    ((conv=>whnf);repeat'((first|refine zo T rfl ?_|refine zl ?_);conv=>whnf))
    refine W_ret ⟨.inr rfl,xV (no fun hf=>?_)⟩
    have hf:=form6.1 hf
    have h:(true != (k != 0)) = true:=h
    simp at h
    omega
   (repeat'((first|refine zo T rfl ?_|refine zl ?_|refine zp h ?_|refine zq h ?_|refine zp rfl ?_|refine zq rfl ?_);conv=>whnf))
   refine ⟨useCon usesS,_,usesS_valid,trivial,.cons (.same _ _) .nil,?_⟩
   (repeat'((first|refine zo T rfl ?_|refine zl ?_|refine zp h ?_|refine zq h ?_|refine zp rfl ?_|refine zq rfl ?_);conv=>whnf))
   refine W_cond rfl (fun h2=>?_) (fun h2=>?_)
   ·have h:(true != (k != 0)) = false:=h
    simp at h
    ((conv=>whnf);repeat'((first|refine zo T rfl ?_|refine zl ?_);conv=>whnf))
    refine W_ret ⟨.inr rfl,xV (no fun hf=>?_)⟩
    have hf:=form6.1 hf
    have h2:(cond (true != (k != 0)) true (true != (s != 0))) = true:=h2
    simp at h2
    omega
   have h2:(cond (true != (k != 0)) true (true != (s != 0))) = false:=h2
   simp at h2
   ((conv=>whnf);repeat'((first|refine zo T rfl ?_|refine zl ?_);conv=>whnf))
   refine .inl ⟨inCon,(_,_,_),in_valid,trivial,.cons (.same _ _) (.cons (.same _ _) (.cons (.same _ _) .nil)),?_⟩
   ((conv=>whnf);repeat'((first|refine zo T rfl ?_|refine zl ?_);conv=>whnf))
   refine ⟨fun h3=>?_,fun h3=>?_⟩
   rotate_left
   ·(repeat'((first|refine zo T rfl ?_|refine zl ?_|refine zp h3 ?_|refine zq h3 ?_|refine zp rfl ?_|refine zq rfl ?_);conv=>whnf))
    refine W_cond rfl (fun _=>?_) (fun h=>by cases h)
    ((conv=>whnf);repeat'((first|refine zo T rfl ?_|refine zl ?_);conv=>whnf))
    refine W_ret ⟨.inr rfl,xV (no fun hf=>?_)⟩
    have hf:=form6.1 hf
    have h3:(!(decide (0 ≤ k) && decide (k ≤ 1000))) = true:=h3
    simp at h3
    omega
   (repeat'((first|refine zo T rfl ?_|refine zl ?_|refine zp h3 ?_|refine zq h3 ?_|refine zp rfl ?_|refine zq rfl ?_);conv=>whnf))
   refine .inl ⟨inCon,(_,_,_),in_valid,trivial,.cons (.same _ _) (.cons (.same _ _) (.cons (.same _ _) .nil)),?_⟩
   (repeat'((first|refine zo T rfl ?_|refine zl ?_|refine zp h3 ?_|refine zq h3 ?_|refine zp rfl ?_|refine zq rfl ?_);conv=>whnf))
   refine W_cond rfl (fun h4=>?_) (fun h4=>?_)
   ·have h3:(!(decide (0 ≤ k) && decide (k ≤ 1000))) = false:=h3
    simp at h3
    ((conv=>whnf);repeat'((first|refine zo T rfl ?_|refine zl ?_);conv=>whnf))
    refine W_ret ⟨.inr rfl,xV (no fun hf=>?_)⟩
    have hf:=form6.1 hf
    have h4:(cond (!(decide (0 ≤ k) && decide (k ≤ 1000))) true (!(decide (0 ≤ s) && decide (s ≤ 1000)))) = true:=h4
    simp at h4
    omega
   have h4:(cond (!(decide (0 ≤ k) && decide (k ≤ 1000))) true (!(decide (0 ≤ s) && decide (s ≤ 1000)))) = false:=h4
   simp at h4
   ((conv=>whnf);repeat'((first|refine zo T rfl ?_|refine zl ?_);conv=>whnf))
   refine .inl ⟨useCon usesB,_,usesB_valid,trivial,.cons (.same _ _) .nil,?_⟩
   (repeat'((first|refine zo T rfl ?_|refine zl ?_|refine zp h4 ?_|refine zq h4 ?_|refine zp rfl ?_|refine zq rfl ?_);conv=>whnf))
   refine W_cond rfl (fun h5=>?_) (fun h5=>?_)
   ·((conv=>whnf);repeat'((first|refine zo T rfl ?_|refine zl ?_);conv=>whnf))
    refine W_ret ⟨.inr rfl,xV (no fun hf=>?_)⟩
    have hf:=form6.1 hf
    have h5:(b != 0) = true:=h5
    have h5:=bne_iff_ne.1 h5
    omega
   have h5:(b != 0) = false:=h5
   have h5:=bne_eq_false_iff_eq.1 h5
   ((conv=>whnf);repeat'((first|refine zo T rfl ?_|refine zl ?_);conv=>whnf))
   refine .inl ⟨useCon usesV,_,usesV_valid,trivial,.cons (.same _ _) .nil,?_⟩
   (repeat'((first|refine zo T rfl ?_|refine zl ?_|refine zp h4 ?_|refine zq h4 ?_|refine zp rfl ?_|refine zq rfl ?_);conv=>whnf))
   refine W_cond rfl (fun h=>by cases h) (fun _=>?_)
   (repeat'((first|refine zo T rfl ?_|refine zl ?_|refine zp h4 ?_|refine zq h4 ?_|refine zp rfl ?_|refine zq rfl ?_);conv=>whnf))
   refine W_cond rfl (fun h=>by cases h) (fun _=>?_)
   (repeat'((first|refine zo T rfl ?_|refine zl ?_|refine zp h4 ?_|refine zq h4 ?_|refine zp rfl ?_|refine zq rfl ?_);conv=>whnf))
   refine W_cond rfl (fun h=>by cases h) (fun _=>?_)
   (repeat'((first|refine zo T rfl ?_|refine zl ?_|refine zp h4 ?_|refine zq h4 ?_|refine zp rfl ?_|refine zq rfl ?_);conv=>whnf))
   refine .inl ⟨allCon rok,v,allOk_valid hr,hp,.cons (.same _ _) .nil,?_⟩
   ((conv=>whnf);repeat'((first|refine zo T rfl ?_|refine zl ?_);conv=>whnf))
   refine W_ret ⟨.inr rfl,xV (bEq ?_)⟩
   show v.all rok = true ↔ FormOk rok ⟨6,a,b,k,s,v⟩
   rw [form6]
   exact ⟨fun hv=>⟨by omega,by omega,by omega,hv⟩,fun hf=>hf.2.2.2⟩
  ·((conv=>whnf);repeat'((first|refine zo T rfl ?_|refine zl ?_);conv=>whnf))
   refine W_draw T 16 rfl (by kernel_rfl) ?_
   ((conv=>whnf);repeat'((first|refine zo T rfl ?_|refine zl ?_);conv=>whnf))
   refine ⟨useCon usesK,_,usesK_valid,trivial,.cons (.same _ _) .nil,?_⟩
   ((conv=>whnf);repeat'((first|refine zo T rfl ?_|refine zl ?_);conv=>whnf))
   refine ⟨fun h=>?_,fun h=>?_⟩
   rotate_left
   ·(repeat'((first|refine zo T rfl ?_|refine zl ?_|refine zp h ?_|refine zq h ?_|refine zp rfl ?_|refine zq rfl ?_);conv=>whnf))
    refine W_cond rfl (fun _=>?_) (fun h=>by cases h)
    ((conv=>whnf);repeat'((first|refine zo T rfl ?_|refine zl ?_);conv=>whnf))
    refine W_ret ⟨.inr rfl,xV (no fun hf=>?_)⟩
    have hf:=form7.1 hf
    have h:(false != (k != 0)) = true:=h
    simp at h
    omega
   (repeat'((first|refine zo T rfl ?_|refine zl ?_|refine zp h ?_|refine zq h ?_|refine zp rfl ?_|refine zq rfl ?_);conv=>whnf))
   refine ⟨useCon usesS,_,usesS_valid,trivial,.cons (.same _ _) .nil,?_⟩
   (repeat'((first|refine zo T rfl ?_|refine zl ?_|refine zp h ?_|refine zq h ?_|refine zp rfl ?_|refine zq rfl ?_);conv=>whnf))
   refine W_cond rfl (fun h2=>?_) (fun h2=>?_)
   ·have h:(false != (k != 0)) = false:=h
    simp at h
    ((conv=>whnf);repeat'((first|refine zo T rfl ?_|refine zl ?_);conv=>whnf))
    refine W_ret ⟨.inr rfl,xV (no fun hf=>?_)⟩
    have hf:=form7.1 hf
    have h2:(cond (false != (k != 0)) true (false != (s != 0))) = true:=h2
    simp at h2
    omega
   have h2:(cond (false != (k != 0)) true (false != (s != 0))) = false:=h2
   simp at h2
   ((conv=>whnf);repeat'((first|refine zo T rfl ?_|refine zl ?_);conv=>whnf))
   refine .inl ⟨inCon,(_,_,_),in_valid,trivial,.cons (.same _ _) (.cons (.same _ _) (.cons (.same _ _) .nil)),?_⟩
   ((conv=>whnf);repeat'((first|refine zo T rfl ?_|refine zl ?_);conv=>whnf))
   refine ⟨fun h3=>?_,fun h3=>?_⟩
   rotate_left
   ·(repeat'((first|refine zo T rfl ?_|refine zl ?_|refine zp h3 ?_|refine zq h3 ?_|refine zp rfl ?_|refine zq rfl ?_);conv=>whnf))
    refine W_cond rfl (fun _=>?_) (fun h=>by cases h)
    ((conv=>whnf);repeat'((first|refine zo T rfl ?_|refine zl ?_);conv=>whnf))
    refine W_ret ⟨.inr rfl,xV (no fun hf=>?_)⟩
    have hf:=form7.1 hf
    have h3:(!(decide (0 ≤ k) && decide (k ≤ 1000))) = true:=h3
    simp at h3
    omega
   (repeat'((first|refine zo T rfl ?_|refine zl ?_|refine zp h3 ?_|refine zq h3 ?_|refine zp rfl ?_|refine zq rfl ?_);conv=>whnf))
   refine .inl ⟨inCon,(_,_,_),in_valid,trivial,.cons (.same _ _) (.cons (.same _ _) (.cons (.same _ _) .nil)),?_⟩
   (repeat'((first|refine zo T rfl ?_|refine zl ?_|refine zp h3 ?_|refine zq h3 ?_|refine zp rfl ?_|refine zq rfl ?_);conv=>whnf))
   refine W_cond rfl (fun h4=>?_) (fun h4=>?_)
   ·have h3:(!(decide (0 ≤ k) && decide (k ≤ 1000))) = false:=h3
    simp at h3
    ((conv=>whnf);repeat'((first|refine zo T rfl ?_|refine zl ?_);conv=>whnf))
    refine W_ret ⟨.inr rfl,xV (no fun hf=>?_)⟩
    have hf:=form7.1 hf
    have h4:(cond (!(decide (0 ≤ k) && decide (k ≤ 1000))) true (!(decide (0 ≤ s) && decide (s ≤ 1000)))) = true:=h4
    simp at h4
    omega
   have h4:(cond (!(decide (0 ≤ k) && decide (k ≤ 1000))) true (!(decide (0 ≤ s) && decide (s ≤ 1000)))) = false:=h4
   simp at h4
   ((conv=>whnf);repeat'((first|refine zo T rfl ?_|refine zl ?_);conv=>whnf))
   refine .inl ⟨useCon usesB,_,usesB_valid,trivial,.cons (.same _ _) .nil,?_⟩
   (repeat'((first|refine zo T rfl ?_|refine zl ?_|refine zp h4 ?_|refine zq h4 ?_|refine zp rfl ?_|refine zq rfl ?_);conv=>whnf))
   refine W_cond rfl (fun h5=>?_) (fun h5=>?_)
   ·((conv=>whnf);repeat'((first|refine zo T rfl ?_|refine zl ?_);conv=>whnf))
    refine W_ret ⟨.inr rfl,xV (no fun hf=>?_)⟩
    have hf:=form7.1 hf
    have h5:(b != 0) = true:=h5
    have h5:=bne_iff_ne.1 h5
    omega
   have h5:(b != 0) = false:=h5
   have h5:=bne_eq_false_iff_eq.1 h5
   ((conv=>whnf);repeat'((first|refine zo T rfl ?_|refine zl ?_);conv=>whnf))
   refine .inl ⟨useCon usesV,_,usesV_valid,trivial,.cons (.same _ _) .nil,?_⟩
   (repeat'((first|refine zo T rfl ?_|refine zl ?_|refine zp h4 ?_|refine zq h4 ?_|refine zp rfl ?_|refine zq rfl ?_);conv=>whnf))
   refine W_cond rfl (fun h=>by cases h) (fun _=>?_)
   (repeat'((first|refine zo T rfl ?_|refine zl ?_|refine zp h4 ?_|refine zq h4 ?_|refine zp rfl ?_|refine zq rfl ?_);conv=>whnf))
   refine W_cond rfl (fun h=>by cases h) (fun _=>?_)
   (repeat'((first|refine zo T rfl ?_|refine zl ?_|refine zp h4 ?_|refine zq h4 ?_|refine zp rfl ?_|refine zq rfl ?_);conv=>whnf))
   refine W_cond rfl (fun h8=>?_) (fun h8=>?_)
   ·((conv=>whnf);repeat'((first|refine zo T rfl ?_|refine zl ?_);conv=>whnf))
    refine W_ret ⟨.inr rfl,xV (no fun hf=>?_)⟩
    have hf:=form7.1 hf
    have h8:(((v.map rowR).length:Int) != 4) = true:=h8
    have h8:=bne_iff_ne.1 h8
    omega
   have h8:(((v.map rowR).length:Int) != 4) = false:=h8
   have h8:=bne_eq_false_iff_eq.1 h8
   (repeat'((first|refine zo T rfl ?_|refine zl ?_|refine zp h4 ?_|refine zq h4 ?_|refine zp rfl ?_|refine zq rfl ?_);conv=>whnf))
   refine .inl ⟨allCon rok,v,allOk_valid hr,hp,.cons (.same _ _) .nil,?_⟩
   ((conv=>whnf);repeat'((first|refine zo T rfl ?_|refine zl ?_);conv=>whnf))
   refine W_ret ⟨.inr rfl,xV (bEq ?_)⟩
   show v.all rok = true ↔ FormOk rok ⟨7,a,b,k,s,v⟩
   rw [form7]
   exact ⟨fun hv=>⟨by omega,by omega,by omega,by omega,hv⟩,fun hf=>hf.2.2.2.2⟩
end Go.Proofs.YtijldkknhphgcaaGreat.Pv
end

section
/- A node's code (the document's). No condition. -/
set_option linter.unusedVariables false
set_option linter.unusedSimpArgs false
namespace Go.Proofs.YtijldkknhphgcaaGreat.Pv
open Go.RowKit
theorem xI {o:Bool} {H:List HB} {x y:Int} (h:x = y):XLe o H (.one (.p false [.v (.int .i64 x)])) (.one (.p false [.v (.int .i64 y)])):=.one (.p _ _ _ (.cons (.v _ _ (by rw [h])) .nil))
abbrev iRow (x:Int):List D:=[.v (.int .i64 x)]
def codeCon (rok:RtD → Bool):Con:=⟨Gr × List Int,fun g=>[(true,rowG g.1),(false,[intsD g.2]),(false,[.v (.int .i64 g.2.length)])],
 fun g=>GOk g.1 ∧ DimsOk g.2 ∧ 1 ≤ g.2.length ∧ g.2.length ≤ g.1.nodes.length,fun _ g=>int .i64 (codeF rok (g.1.nodes.getD (g.2.length - 1) default) g.2),true⟩
theorem code12 {rok:RtD → Bool} {n:Nod} {dims:List Int} (h:¬ FormOk rok n):12 = codeF rok n dims:=by unfold codeF;rw [if_pos h]
theorem code13 {rok:RtD → Bool} {n:Nod} {dims:List Int} (h:FormOk rok n) (h2:¬ srcIn n dims):13 = codeF rok n dims:=by unfold codeF;rw [if_neg (fun x=>x h),if_pos h2]
theorem code14 {rok:RtD → Bool} {n:Nod} {dims:List Int} (h:FormOk rok n) (h2:srcIn n dims) (h3:dimOf n dims = 0):14 = codeF rok n dims:=by unfold codeF;rw [if_neg (fun x=>x h),if_neg (fun x=>x h2),if_pos h3]
theorem code15 {rok:RtD → Bool} {n:Nod} {dims:List Int} (h:FormOk rok n) (h2:srcIn n dims) (h3:¬ dimOf n dims = 0) (h4:n.op = 7 ∧ (n.v.getD 2 default).2.1.length = 0):15 = codeF rok n dims:=by unfold codeF;rw [if_neg (fun x=>x h),if_neg (fun x=>x h2),if_neg h3,if_pos h4]
theorem code0 {rok:RtD → Bool} {n:Nod} {dims:List Int} (h:FormOk rok n) (h2:srcIn n dims) (h3:¬ dimOf n dims = 0) (h4:¬ (n.op = 7 ∧ (n.v.getD 2 default).2.1.length = 0)):0 = codeF rok n dims:=by unfold codeF;rw [if_neg (fun x=>x h),if_neg (fun x=>x h2),if_neg h3,if_neg h4]
theorem shape1 {a b k s:Int} {v:List RtD} {d e:Int}:shapeF ⟨1,a,b,k,s,v⟩ d e = if (v.length:Int) = k * (d + 1) then k else 0:=rfl
theorem shape4 {a b k s:Int} {v:List RtD} {d e:Int}:shapeF ⟨4,a,b,k,s,v⟩ d e = if d = e then d else 0:=rfl
theorem shape5 {a b k s:Int} {v:List RtD} {d e:Int}:shapeF ⟨5,a,b,k,s,v⟩ d e = if d % k = 0 then d / k else 0:=rfl
theorem shape6 {a b k s:Int} {v:List RtD} {d e:Int}:shapeF ⟨6,a,b,k,s,v⟩ d e = if k ≤ d ∧ (v.length:Int) = k + 1 then (d - k) / s + 1 else 0:=rfl
theorem dim5 {a b k s:Int} {v:List RtD} {dims:List Int} (hk:1 ≤ k) (hd:1 ≤ dims.getD a.toNat 0) (h:(dims.getD a.toNat 0) % k = 0):¬ dimOf ⟨5,a,b,k,s,v⟩ dims = 0:=by
 show ¬ shapeF _ (dims.getD a.toNat 0) _ = 0
 rw [shape5,if_pos h]
 generalize dims.getD a.toNat 0 = d at *
 intro e
 have:=Int.emod_add_mul_ediv d k
 rw [e,h] at this
 simp at this
 omega
theorem dim6 {a b k s:Int} {v:List RtD} {dims:List Int} (hk:1 ≤ k) (hs:1 ≤ s) (hd:k ≤ dims.getD a.toNat 0) (h:(v.length:Int) = k + 1):¬ dimOf ⟨6,a,b,k,s,v⟩ dims = 0:=by
 show ¬ shapeF _ (dims.getD a.toNat 0) _ = 0
 rw [shape6,if_pos ⟨hd,h⟩]
 have:0 ≤ (dims.getD a.toNat 0 - k) / s:=Int.ediv_nonneg (by omega) (by omega)
 omega
set_option maxHeartbeats 4000000 in
theorem nodeCode_valid {rok:RtD → Bool} (hr:Valid Tryz.prog 65 (rokCon rok)):Valid Tryz.prog 35 (codeCon rok):=by
 refine valid_intro (ts:=[6]) (codeCon rok) Tryz.func35 rfl rfl rfl (by decide) (fun _=>Nat.le_of_ble_eq_true rfl) ?_
 rintro ⟨g,dims⟩ ⟨(hg:GOk g),(hd:DimsOk dims),(h1:1 ≤ dims.length),(h2:dims.length ≤ g.nodes.length)⟩ nm nx
 have hn:=hg.2.2.1
 have hlen:(g.nodes.map rowN).length = g.nodes.length:=List.length_map ..
 have hdl:(dims.map iRow).length = dims.length:=List.length_map ..
 have ei:((dims.length:Int) - 1).toNat = dims.length - 1:=by omega
 obtain ⟨n,hnn⟩:∃ n,n = g.nodes.getD (dims.length - 1) default:=⟨_,rfl⟩
 have hv:LsOk n.v:=by
  refine hg.2.2.2 n ?_
  have hi:dims.length - 1 < g.nodes.length:=by omega
  rw [hnn]
  simp [hi]
 have hrow:RowAt (g.nodes.map rowN) ((dims.length:Int) - 1).toNat (rowN n):=by
  rw [ei,hnn]
  exact rowMap g.nodes rowN _
 have hres:(codeCon rok).res nm (g,dims) = int .i64 (codeF rok n dims):=by rw [hnn];rfl
 rw [hres]
 clear hres hnn
 obtain ⟨op,a,b,k,s,v⟩:=n
 have hvl:(v.map rowR).length = v.length:=List.length_map ..
 ((conv=>whnf);repeat'((first|refine zo T rfl ?_|refine zl ?_);conv=>whnf))
 refine ⟨by show _ ≤ (dims.length:Int) - 1 ∧ (dims.length:Int) - 1 ≤ _;omega,?_⟩
 ((conv=>whnf);repeat'((first|refine zo T rfl ?_|refine zl ?_);conv=>whnf))
 refine ⟨by show 0 ≤ (dims.length:Int) - 1;omega,by show (dims.length:Int) - 1 < (g.nodes.map rowN).length;omega,_,hrow,?_⟩
 ((conv=>whnf);repeat'((first|refine zo T rfl ?_|refine zl ?_);conv=>whnf))
 refine .inl ⟨formCon rok,⟨op,a,b,k,s,v⟩,formOk_valid hr,hv,.cons (.same _ _) .nil,?_⟩
 ((conv=>whnf);repeat'((first|refine zo T rfl ?_|refine zl ?_);conv=>whnf))
 refine W_cond rfl (fun h=>?_) (fun h=>?_)
 ·have h:(!decide (FormOk rok ⟨op,a,b,k,s,v⟩)) = true:=h
  ((conv=>whnf);repeat'((first|refine zo T rfl ?_|refine zl ?_);conv=>whnf))
  exact W_ret ⟨.inr rfl,xI (code12 (by simpa using h))⟩
 ·have h:(!decide (FormOk rok ⟨op,a,b,k,s,v⟩)) = false:=h
  have hf:FormOk rok ⟨op,a,b,k,s,v⟩:=by simpa using h
  have hop:op = 1 ∨ op = 2 ∨ op = 3 ∨ op = 4 ∨ op = 5 ∨ op = 6 ∨ op = 7:=by
   unfold FormOk at hf
   simp only at hf
   omega
  rcases hop with rfl | rfl | rfl | rfl | rfl | rfl | rfl
  ·have hf':=form1.1 hf
   ((conv=>whnf);repeat'((first|refine zo T rfl ?_|refine zl ?_);conv=>whnf))
   refine ⟨by show _ ≤ (dims.length:Int) - 1 ∧ (dims.length:Int) - 1 ≤ _;omega,?_⟩
   ((conv=>whnf);repeat'((first|refine zo T rfl ?_|refine zl ?_);conv=>whnf))
   refine .inl ⟨inCon,(_,_,_),in_valid,trivial,.cons (.same _ _) (.cons (.same _ _) (.cons (.same _ _) .nil)),?_⟩
   ((conv=>whnf);repeat'((first|refine zo T rfl ?_|refine zl ?_);conv=>whnf))
   refine ⟨fun h=>?_,fun h=>?_⟩
   rotate_left
   ·(repeat'((first|refine zo T rfl ?_|refine zl ?_|refine zp h ?_|refine zq h ?_|refine zp rfl ?_|refine zq rfl ?_);conv=>whnf))
    refine W_cond rfl (fun _=>?_) (fun h=>by cases h)
    ((conv=>whnf);repeat'((first|refine zo T rfl ?_|refine zl ?_);conv=>whnf))
    refine W_ret ⟨.inr rfl,xI (code13 hf fun hs=>?_)⟩
    have hs:=hs.1
    have h:(!(decide (0 ≤ a) && decide (a ≤ (dims.length:Int) - 1))) = true:=h
    simp at h
    simp only at hs
    omega
   (repeat'((first|refine zo T rfl ?_|refine zl ?_|refine zp h ?_|refine zq h ?_|refine zp rfl ?_|refine zq rfl ?_);conv=>whnf))
   refine .inl ⟨useCon usesB,_,usesB_valid,trivial,.cons (.same _ _) .nil,?_⟩
   (repeat'((first|refine zo T rfl ?_|refine zl ?_|refine zp h ?_|refine zq h ?_|refine zp rfl ?_|refine zq rfl ?_);conv=>whnf))
   refine W_cond rfl (fun h3=>?_) (fun _=>?_)
   ·have h3:(cond (!(decide (0 ≤ a) && decide (a ≤ (dims.length:Int) - 1))) true false) = true:=h3
    have h:(!(decide (0 ≤ a) && decide (a ≤ (dims.length:Int) - 1))) = false:=h
    rw [h] at h3
    cases h3
   have h:(!(decide (0 ≤ a) && decide (a ≤ (dims.length:Int) - 1))) = false:=h
   simp at h
   have hsrc:srcIn (⟨1,a,b,k,s,v⟩:Nod) dims:=⟨⟨by show 0 ≤ a;omega,by show a < _;omega⟩,fun h4=>(by cases h4)⟩
   have da:=dims_at hd hsrc.1.1 hsrc.1.2
   have da:1 ≤ dims.getD a.toNat 0 ∧ dims.getD a.toNat 0 ≤ 1000:=da
   ((conv=>whnf);repeat'((first|refine zo T rfl ?_|refine zl ?_);conv=>whnf))
   refine ⟨by show 0 ≤ a;omega,by show a < (dims.map iRow).length;omega,_,rowMap dims iRow _,?_⟩
   have hm:=mul_le (a:=k) (b:=dims.getD a.toNat 0 + 1) (by omega) (by omega)
   (repeat'((first|refine zo T rfl ?_|refine zl ?_|refine zp rfl ?_|refine zq rfl ?_|refine zp rfl ?_|refine zq rfl ?_);conv=>whnf))
   refine ⟨by show _ ≤ dims.getD a.toNat 0 + 1 ∧ dims.getD a.toNat 0 + 1 ≤ _;omega,?_⟩
   (repeat'((first|refine zo T rfl ?_|refine zl ?_|refine zp rfl ?_|refine zq rfl ?_|refine zp rfl ?_|refine zq rfl ?_);conv=>whnf))
   refine ⟨by show _ ≤ k * (dims.getD a.toNat 0 + 1) ∧ k * (dims.getD a.toNat 0 + 1) ≤ _;omega,?_⟩
   (repeat'((first|refine zo T rfl ?_|refine zl ?_|refine zp rfl ?_|refine zq rfl ?_|refine zp rfl ?_|refine zq rfl ?_);conv=>whnf))
   refine W_cond rfl (fun h4=>?_) (fun h4=>?_)
   ·have h4:=bne_iff_ne.1 (show (((v.map rowR).length:Int) != k * (dims.getD a.toNat 0 + 1)) = true from h4)
    ((conv=>whnf);repeat'((first|refine zo T rfl ?_|refine zl ?_);conv=>whnf))
    exact W_ret ⟨.inr rfl,xI (code14 hf hsrc (by show shapeF _ (dims.getD a.toNat 0) _ = 0;rw [shape1,if_neg (by omega)]))⟩
   have h4:=bne_eq_false_iff_eq.1 (show (((v.map rowR).length:Int) != k * (dims.getD a.toNat 0 + 1)) = false from h4)
   have hdim:¬ dimOf (⟨1,a,b,k,s,v⟩:Nod) dims = 0:=by show ¬ shapeF _ (dims.getD a.toNat 0) _ = 0;rw [shape1,if_pos (by omega)];omega
   (repeat'((first|refine zo T rfl ?_|refine zl ?_|refine zp rfl ?_|refine zq rfl ?_|refine zp rfl ?_|refine zq rfl ?_);conv=>whnf))
   refine W_cond rfl (fun h=>by cases h) (fun _=>?_)
   (repeat'((first|refine zo T rfl ?_|refine zl ?_|refine zp rfl ?_|refine zq rfl ?_|refine zp rfl ?_|refine zq rfl ?_);conv=>whnf))
   refine W_cond rfl (fun h=>by cases h) (fun _=>?_)
   (repeat'((first|refine zo T rfl ?_|refine zl ?_|refine zp rfl ?_|refine zq rfl ?_|refine zp rfl ?_|refine zq rfl ?_);conv=>whnf))
   refine W_cond rfl (fun h=>by cases h) (fun _=>?_)
   (repeat'((first|refine zo T rfl ?_|refine zl ?_|refine zp rfl ?_|refine zq rfl ?_|refine zp rfl ?_|refine zq rfl ?_);conv=>whnf))
   refine W_cond rfl (fun h=>by cases h) (fun _=>?_)
   ((conv=>whnf);repeat'((first|refine zo T rfl ?_|refine zl ?_);conv=>whnf))
   exact W_ret ⟨.inr rfl,xI (code0 hf hsrc hdim fun hx=>absurd (show (1:Int) = 7 from hx.1) (by decide))⟩
  ·have hf':=form2.1 hf
   ((conv=>whnf);repeat'((first|refine zo T rfl ?_|refine zl ?_);conv=>whnf))
   refine ⟨by show _ ≤ (dims.length:Int) - 1 ∧ (dims.length:Int) - 1 ≤ _;omega,?_⟩
   ((conv=>whnf);repeat'((first|refine zo T rfl ?_|refine zl ?_);conv=>whnf))
   refine .inl ⟨inCon,(_,_,_),in_valid,trivial,.cons (.same _ _) (.cons (.same _ _) (.cons (.same _ _) .nil)),?_⟩
   ((conv=>whnf);repeat'((first|refine zo T rfl ?_|refine zl ?_);conv=>whnf))
   refine ⟨fun h=>?_,fun h=>?_⟩
   rotate_left
   ·(repeat'((first|refine zo T rfl ?_|refine zl ?_|refine zp h ?_|refine zq h ?_|refine zp rfl ?_|refine zq rfl ?_);conv=>whnf))
    refine W_cond rfl (fun _=>?_) (fun h=>by cases h)
    ((conv=>whnf);repeat'((first|refine zo T rfl ?_|refine zl ?_);conv=>whnf))
    refine W_ret ⟨.inr rfl,xI (code13 hf fun hs=>?_)⟩
    have hs:=hs.1
    have h:(!(decide (0 ≤ a) && decide (a ≤ (dims.length:Int) - 1))) = true:=h
    simp at h
    simp only at hs
    omega
   (repeat'((first|refine zo T rfl ?_|refine zl ?_|refine zp h ?_|refine zq h ?_|refine zp rfl ?_|refine zq rfl ?_);conv=>whnf))
   refine .inl ⟨useCon usesB,_,usesB_valid,trivial,.cons (.same _ _) .nil,?_⟩
   (repeat'((first|refine zo T rfl ?_|refine zl ?_|refine zp h ?_|refine zq h ?_|refine zp rfl ?_|refine zq rfl ?_);conv=>whnf))
   refine W_cond rfl (fun h3=>?_) (fun _=>?_)
   ·have h3:(cond (!(decide (0 ≤ a) && decide (a ≤ (dims.length:Int) - 1))) true false) = true:=h3
    have h:(!(decide (0 ≤ a) && decide (a ≤ (dims.length:Int) - 1))) = false:=h
    rw [h] at h3
    cases h3
   have h:(!(decide (0 ≤ a) && decide (a ≤ (dims.length:Int) - 1))) = false:=h
   simp at h
   have hsrc:srcIn (⟨2,a,b,k,s,v⟩:Nod) dims:=⟨⟨by show 0 ≤ a;omega,by show a < _;omega⟩,fun h4=>(by cases h4)⟩
   have da:=dims_at hd hsrc.1.1 hsrc.1.2
   have da:1 ≤ dims.getD a.toNat 0 ∧ dims.getD a.toNat 0 ≤ 1000:=da
   ((conv=>whnf);repeat'((first|refine zo T rfl ?_|refine zl ?_);conv=>whnf))
   refine ⟨by show 0 ≤ a;omega,by show a < (dims.map iRow).length;omega,_,rowMap dims iRow _,?_⟩
   (repeat'((first|refine zo T rfl ?_|refine zl ?_|refine zp rfl ?_|refine zq rfl ?_|refine zp rfl ?_|refine zq rfl ?_);conv=>whnf))
   refine W_cond rfl (fun h=>by cases h) (fun _=>?_)
   (repeat'((first|refine zo T rfl ?_|refine zl ?_|refine zp rfl ?_|refine zq rfl ?_|refine zp rfl ?_|refine zq rfl ?_);conv=>whnf))
   refine W_cond rfl (fun h=>by cases h) (fun _=>?_)
   (repeat'((first|refine zo T rfl ?_|refine zl ?_|refine zp rfl ?_|refine zq rfl ?_|refine zp rfl ?_|refine zq rfl ?_);conv=>whnf))
   refine W_cond rfl (fun h=>by cases h) (fun _=>?_)
   (repeat'((first|refine zo T rfl ?_|refine zl ?_|refine zp rfl ?_|refine zq rfl ?_|refine zp rfl ?_|refine zq rfl ?_);conv=>whnf))
   refine W_cond rfl (fun h=>by cases h) (fun _=>?_)
   (repeat'((first|refine zo T rfl ?_|refine zl ?_|refine zp rfl ?_|refine zq rfl ?_|refine zp rfl ?_|refine zq rfl ?_);conv=>whnf))
   refine W_cond rfl (fun h=>by cases h) (fun _=>?_)
   have hdim:¬ dimOf (⟨2,a,b,k,s,v⟩:Nod) dims = 0:=by show ¬ dims.getD a.toNat 0 = 0;omega
   ((conv=>whnf);repeat'((first|refine zo T rfl ?_|refine zl ?_);conv=>whnf))
   exact W_ret ⟨.inr rfl,xI (code0 hf hsrc hdim fun hx=>absurd (show (2:Int) = 7 from hx.1) (by decide))⟩
  ·have hf':=form3.1 hf
   ((conv=>whnf);repeat'((first|refine zo T rfl ?_|refine zl ?_);conv=>whnf))
   refine ⟨by show _ ≤ (dims.length:Int) - 1 ∧ (dims.length:Int) - 1 ≤ _;omega,?_⟩
   ((conv=>whnf);repeat'((first|refine zo T rfl ?_|refine zl ?_);conv=>whnf))
   refine .inl ⟨inCon,(_,_,_),in_valid,trivial,.cons (.same _ _) (.cons (.same _ _) (.cons (.same _ _) .nil)),?_⟩
   ((conv=>whnf);repeat'((first|refine zo T rfl ?_|refine zl ?_);conv=>whnf))
   refine ⟨fun h=>?_,fun h=>?_⟩
   rotate_left
   ·(repeat'((first|refine zo T rfl ?_|refine zl ?_|refine zp h ?_|refine zq h ?_|refine zp rfl ?_|refine zq rfl ?_);conv=>whnf))
    refine W_cond rfl (fun _=>?_) (fun h=>by cases h)
    ((conv=>whnf);repeat'((first|refine zo T rfl ?_|refine zl ?_);conv=>whnf))
    refine W_ret ⟨.inr rfl,xI (code13 hf fun hs=>?_)⟩
    have hs:=hs.1
    have h:(!(decide (0 ≤ a) && decide (a ≤ (dims.length:Int) - 1))) = true:=h
    simp at h
    simp only at hs
    omega
   (repeat'((first|refine zo T rfl ?_|refine zl ?_|refine zp h ?_|refine zq h ?_|refine zp rfl ?_|refine zq rfl ?_);conv=>whnf))
   refine .inl ⟨useCon usesB,_,usesB_valid,trivial,.cons (.same _ _) .nil,?_⟩
   (repeat'((first|refine zo T rfl ?_|refine zl ?_|refine zp h ?_|refine zq h ?_|refine zp rfl ?_|refine zq rfl ?_);conv=>whnf))
   refine W_cond rfl (fun h3=>?_) (fun _=>?_)
   ·have h3:(cond (!(decide (0 ≤ a) && decide (a ≤ (dims.length:Int) - 1))) true false) = true:=h3
    have h:(!(decide (0 ≤ a) && decide (a ≤ (dims.length:Int) - 1))) = false:=h
    rw [h] at h3
    cases h3
   have h:(!(decide (0 ≤ a) && decide (a ≤ (dims.length:Int) - 1))) = false:=h
   simp at h
   have hsrc:srcIn (⟨3,a,b,k,s,v⟩:Nod) dims:=⟨⟨by show 0 ≤ a;omega,by show a < _;omega⟩,fun h4=>(by cases h4)⟩
   have da:=dims_at hd hsrc.1.1 hsrc.1.2
   have da:1 ≤ dims.getD a.toNat 0 ∧ dims.getD a.toNat 0 ≤ 1000:=da
   ((conv=>whnf);repeat'((first|refine zo T rfl ?_|refine zl ?_);conv=>whnf))
   refine ⟨by show 0 ≤ a;omega,by show a < (dims.map iRow).length;omega,_,rowMap dims iRow _,?_⟩
   (repeat'((first|refine zo T rfl ?_|refine zl ?_|refine zp rfl ?_|refine zq rfl ?_|refine zp rfl ?_|refine zq rfl ?_);conv=>whnf))
   refine W_cond rfl (fun h=>by cases h) (fun _=>?_)
   (repeat'((first|refine zo T rfl ?_|refine zl ?_|refine zp rfl ?_|refine zq rfl ?_|refine zp rfl ?_|refine zq rfl ?_);conv=>whnf))
   refine W_cond rfl (fun h=>by cases h) (fun _=>?_)
   (repeat'((first|refine zo T rfl ?_|refine zl ?_|refine zp rfl ?_|refine zq rfl ?_|refine zp rfl ?_|refine zq rfl ?_);conv=>whnf))
   refine W_cond rfl (fun h=>by cases h) (fun _=>?_)
   (repeat'((first|refine zo T rfl ?_|refine zl ?_|refine zp rfl ?_|refine zq rfl ?_|refine zp rfl ?_|refine zq rfl ?_);conv=>whnf))
   refine W_cond rfl (fun h=>by cases h) (fun _=>?_)
   (repeat'((first|refine zo T rfl ?_|refine zl ?_|refine zp rfl ?_|refine zq rfl ?_|refine zp rfl ?_|refine zq rfl ?_);conv=>whnf))
   refine W_cond rfl (fun h=>by cases h) (fun _=>?_)
   have hdim:¬ dimOf (⟨3,a,b,k,s,v⟩:Nod) dims = 0:=by show ¬ dims.getD a.toNat 0 = 0;omega
   ((conv=>whnf);repeat'((first|refine zo T rfl ?_|refine zl ?_);conv=>whnf))
   exact W_ret ⟨.inr rfl,xI (code0 hf hsrc hdim fun hx=>absurd (show (3:Int) = 7 from hx.1) (by decide))⟩
  ·have hf':=form4.1 hf
   ((conv=>whnf);repeat'((first|refine zo T rfl ?_|refine zl ?_);conv=>whnf))
   refine ⟨by show _ ≤ (dims.length:Int) - 1 ∧ (dims.length:Int) - 1 ≤ _;omega,?_⟩
   ((conv=>whnf);repeat'((first|refine zo T rfl ?_|refine zl ?_);conv=>whnf))
   refine .inl ⟨inCon,(_,_,_),in_valid,trivial,.cons (.same _ _) (.cons (.same _ _) (.cons (.same _ _) .nil)),?_⟩
   ((conv=>whnf);repeat'((first|refine zo T rfl ?_|refine zl ?_);conv=>whnf))
   refine ⟨fun h=>?_,fun h=>?_⟩
   rotate_left
   ·(repeat'((first|refine zo T rfl ?_|refine zl ?_|refine zp h ?_|refine zq h ?_|refine zp rfl ?_|refine zq rfl ?_);conv=>whnf))
    refine W_cond rfl (fun _=>?_) (fun h=>by cases h)
    ((conv=>whnf);repeat'((first|refine zo T rfl ?_|refine zl ?_);conv=>whnf))
    refine W_ret ⟨.inr rfl,xI (code13 hf fun hs=>?_)⟩
    have hs:=hs.1
    have h:(!(decide (0 ≤ a) && decide (a ≤ (dims.length:Int) - 1))) = true:=h
    simp at h
    simp only at hs
    omega
   (repeat'((first|refine zo T rfl ?_|refine zl ?_|refine zp h ?_|refine zq h ?_|refine zp rfl ?_|refine zq rfl ?_);conv=>whnf))
   refine .inl ⟨useCon usesB,_,usesB_valid,trivial,.cons (.same _ _) .nil,?_⟩
   (repeat'((first|refine zo T rfl ?_|refine zl ?_|refine zp h ?_|refine zq h ?_|refine zp rfl ?_|refine zq rfl ?_);conv=>whnf))
   refine ⟨by show _ ≤ (dims.length:Int) - 1 ∧ (dims.length:Int) - 1 ≤ _;omega,?_⟩
   (repeat'((first|refine zo T rfl ?_|refine zl ?_|refine zp h ?_|refine zq h ?_|refine zp rfl ?_|refine zq rfl ?_);conv=>whnf))
   refine .inl ⟨inCon,(_,_,_),in_valid,trivial,.cons (.same _ _) (.cons (.same _ _) (.cons (.same _ _) .nil)),?_⟩
   (repeat'((first|refine zo T rfl ?_|refine zl ?_|refine zp h ?_|refine zq h ?_|refine zp rfl ?_|refine zq rfl ?_);conv=>whnf))
   refine W_cond rfl (fun h3=>?_) (fun h3=>?_)
   ·have h3:(cond (!(decide (0 ≤ a) && decide (a ≤ (dims.length:Int) - 1))) true (!(decide (0 ≤ b) && decide (b ≤ (dims.length:Int) - 1)))) = true:=h3
    have h:(!(decide (0 ≤ a) && decide (a ≤ (dims.length:Int) - 1))) = false:=h
    rw [h] at h3
    simp at h3
    ((conv=>whnf);repeat'((first|refine zo T rfl ?_|refine zl ?_);conv=>whnf))
    refine W_ret ⟨.inr rfl,xI (code13 hf fun hs=>?_)⟩
    have hs:=hs.2 rfl
    simp only at hs
    omega
   have h3:(cond (!(decide (0 ≤ a) && decide (a ≤ (dims.length:Int) - 1))) true (!(decide (0 ≤ b) && decide (b ≤ (dims.length:Int) - 1)))) = false:=h3
   have h:(!(decide (0 ≤ a) && decide (a ≤ (dims.length:Int) - 1))) = false:=h
   rw [h] at h3
   simp at h h3
   have hsrc:srcIn (⟨4,a,b,k,s,v⟩:Nod) dims:=⟨⟨by show 0 ≤ a;omega,by show a < _;omega⟩,fun _=>⟨by show 0 ≤ b;omega,by show b < _;omega⟩⟩
   have da:=dims_at hd hsrc.1.1 hsrc.1.2
   have da:1 ≤ dims.getD a.toNat 0 ∧ dims.getD a.toNat 0 ≤ 1000:=da
   ((conv=>whnf);repeat'((first|refine zo T rfl ?_|refine zl ?_);conv=>whnf))
   refine ⟨by show 0 ≤ a;omega,by show a < (dims.map iRow).length;omega,_,rowMap dims iRow _,?_⟩
   (repeat'((first|refine zo T rfl ?_|refine zl ?_|refine zp rfl ?_|refine zq rfl ?_|refine zp rfl ?_|refine zq rfl ?_);conv=>whnf))
   refine W_cond rfl (fun h=>by cases h) (fun _=>?_)
   (repeat'((first|refine zo T rfl ?_|refine zl ?_|refine zp rfl ?_|refine zq rfl ?_|refine zp rfl ?_|refine zq rfl ?_);conv=>whnf))
   refine ⟨by show 0 ≤ b;omega,by show b < (dims.map iRow).length;omega,_,rowMap dims iRow _,?_⟩
   (repeat'((first|refine zo T rfl ?_|refine zl ?_|refine zp rfl ?_|refine zq rfl ?_|refine zp rfl ?_|refine zq rfl ?_);conv=>whnf))
   refine W_cond rfl (fun h4=>?_) (fun h4=>?_)
   ·have h4:=bne_iff_ne.1 (show (dims.getD b.toNat 0 != dims.getD a.toNat 0) = true from h4)
    ((conv=>whnf);repeat'((first|refine zo T rfl ?_|refine zl ?_);conv=>whnf))
    exact W_ret ⟨.inr rfl,xI (code14 hf hsrc (by show shapeF _ (dims.getD a.toNat 0) (dims.getD b.toNat 0) = 0;rw [shape4,if_neg (fun e=>h4 e.symm)]))⟩
   have h4:=bne_eq_false_iff_eq.1 (show (dims.getD b.toNat 0 != dims.getD a.toNat 0) = false from h4)
   have hdim:¬ dimOf (⟨4,a,b,k,s,v⟩:Nod) dims = 0:=by show ¬ shapeF _ (dims.getD a.toNat 0) (dims.getD b.toNat 0) = 0;rw [shape4,if_pos h4.symm];omega
   (repeat'((first|refine zo T rfl ?_|refine zl ?_|refine zp rfl ?_|refine zq rfl ?_|refine zp rfl ?_|refine zq rfl ?_);conv=>whnf))
   refine W_cond rfl (fun h=>by cases h) (fun _=>?_)
   (repeat'((first|refine zo T rfl ?_|refine zl ?_|refine zp rfl ?_|refine zq rfl ?_|refine zp rfl ?_|refine zq rfl ?_);conv=>whnf))
   refine W_cond rfl (fun h=>by cases h) (fun _=>?_)
   (repeat'((first|refine zo T rfl ?_|refine zl ?_|refine zp rfl ?_|refine zq rfl ?_|refine zp rfl ?_|refine zq rfl ?_);conv=>whnf))
   refine W_cond rfl (fun h=>by cases h) (fun _=>?_)
   ((conv=>whnf);repeat'((first|refine zo T rfl ?_|refine zl ?_);conv=>whnf))
   exact W_ret ⟨.inr rfl,xI (code0 hf hsrc hdim fun hx=>absurd (show (4:Int) = 7 from hx.1) (by decide))⟩
  ·have hf':=form5.1 hf
   ((conv=>whnf);repeat'((first|refine zo T rfl ?_|refine zl ?_);conv=>whnf))
   refine ⟨by show _ ≤ (dims.length:Int) - 1 ∧ (dims.length:Int) - 1 ≤ _;omega,?_⟩
   ((conv=>whnf);repeat'((first|refine zo T rfl ?_|refine zl ?_);conv=>whnf))
   refine .inl ⟨inCon,(_,_,_),in_valid,trivial,.cons (.same _ _) (.cons (.same _ _) (.cons (.same _ _) .nil)),?_⟩
   ((conv=>whnf);repeat'((first|refine zo T rfl ?_|refine zl ?_);conv=>whnf))
   refine ⟨fun h=>?_,fun h=>?_⟩
   rotate_left
   ·(repeat'((first|refine zo T rfl ?_|refine zl ?_|refine zp h ?_|refine zq h ?_|refine zp rfl ?_|refine zq rfl ?_);conv=>whnf))
    refine W_cond rfl (fun _=>?_) (fun h=>by cases h)
    ((conv=>whnf);repeat'((first|refine zo T rfl ?_|refine zl ?_);conv=>whnf))
    refine W_ret ⟨.inr rfl,xI (code13 hf fun hs=>?_)⟩
    have hs:=hs.1
    have h:(!(decide (0 ≤ a) && decide (a ≤ (dims.length:Int) - 1))) = true:=h
    simp at h
    simp only at hs
    omega
   (repeat'((first|refine zo T rfl ?_|refine zl ?_|refine zp h ?_|refine zq h ?_|refine zp rfl ?_|refine zq rfl ?_);conv=>whnf))
   refine .inl ⟨useCon usesB,_,usesB_valid,trivial,.cons (.same _ _) .nil,?_⟩
   (repeat'((first|refine zo T rfl ?_|refine zl ?_|refine zp h ?_|refine zq h ?_|refine zp rfl ?_|refine zq rfl ?_);conv=>whnf))
   refine W_cond rfl (fun h3=>?_) (fun _=>?_)
   ·have h3:(cond (!(decide (0 ≤ a) && decide (a ≤ (dims.length:Int) - 1))) true false) = true:=h3
    have h:(!(decide (0 ≤ a) && decide (a ≤ (dims.length:Int) - 1))) = false:=h
    rw [h] at h3
    cases h3
   have h:(!(decide (0 ≤ a) && decide (a ≤ (dims.length:Int) - 1))) = false:=h
   simp at h
   have hsrc:srcIn (⟨5,a,b,k,s,v⟩:Nod) dims:=⟨⟨by show 0 ≤ a;omega,by show a < _;omega⟩,fun h4=>(by cases h4)⟩
   have da:=dims_at hd hsrc.1.1 hsrc.1.2
   have da:1 ≤ dims.getD a.toNat 0 ∧ dims.getD a.toNat 0 ≤ 1000:=da
   ((conv=>whnf);repeat'((first|refine zo T rfl ?_|refine zl ?_);conv=>whnf))
   refine ⟨by show 0 ≤ a;omega,by show a < (dims.map iRow).length;omega,_,rowMap dims iRow _,?_⟩
   (repeat'((first|refine zo T rfl ?_|refine zl ?_|refine zp rfl ?_|refine zq rfl ?_|refine zp rfl ?_|refine zq rfl ?_);conv=>whnf))
   refine W_cond rfl (fun h=>by cases h) (fun _=>?_)
   (repeat'((first|refine zo T rfl ?_|refine zl ?_|refine zp rfl ?_|refine zq rfl ?_|refine zp rfl ?_|refine zq rfl ?_);conv=>whnf))
   refine W_cond rfl (fun h=>by cases h) (fun _=>?_)
   (repeat'((first|refine zo T rfl ?_|refine zl ?_|refine zp rfl ?_|refine zq rfl ?_|refine zp rfl ?_|refine zq rfl ?_);conv=>whnf))
   refine ⟨⟨by show 0 ≤ dims.getD a.toNat 0;omega,by show 0 < k;omega⟩,?_⟩
   (repeat'((first|refine zo T rfl ?_|refine zl ?_|refine zp rfl ?_|refine zq rfl ?_|refine zp rfl ?_|refine zq rfl ?_);conv=>whnf))
   refine W_cond rfl (fun h4=>?_) (fun h4=>?_)
   ·have h4:=bne_iff_ne.1 (show ((dims.getD a.toNat 0) % k != 0) = true from h4)
    ((conv=>whnf);repeat'((first|refine zo T rfl ?_|refine zl ?_);conv=>whnf))
    exact W_ret ⟨.inr rfl,xI (code14 hf hsrc (by show shapeF _ (dims.getD a.toNat 0) _ = 0;rw [shape5,if_neg h4]))⟩
   have h4:=bne_eq_false_iff_eq.1 (show ((dims.getD a.toNat 0) % k != 0) = false from h4)
   have hdim:¬ dimOf (⟨5,a,b,k,s,v⟩:Nod) dims = 0:=dim5 (by omega) (by omega) h4
   (repeat'((first|refine zo T rfl ?_|refine zl ?_|refine zp rfl ?_|refine zq rfl ?_|refine zp rfl ?_|refine zq rfl ?_);conv=>whnf))
   refine W_cond rfl (fun h=>by cases h) (fun _=>?_)
   (repeat'((first|refine zo T rfl ?_|refine zl ?_|refine zp rfl ?_|refine zq rfl ?_|refine zp rfl ?_|refine zq rfl ?_);conv=>whnf))
   refine W_cond rfl (fun h=>by cases h) (fun _=>?_)
   ((conv=>whnf);repeat'((first|refine zo T rfl ?_|refine zl ?_);conv=>whnf))
   exact W_ret ⟨.inr rfl,xI (code0 hf hsrc hdim fun hx=>absurd (show (5:Int) = 7 from hx.1) (by decide))⟩
  ·have hf':=form6.1 hf
   ((conv=>whnf);repeat'((first|refine zo T rfl ?_|refine zl ?_);conv=>whnf))
   refine ⟨by show _ ≤ (dims.length:Int) - 1 ∧ (dims.length:Int) - 1 ≤ _;omega,?_⟩
   ((conv=>whnf);repeat'((first|refine zo T rfl ?_|refine zl ?_);conv=>whnf))
   refine .inl ⟨inCon,(_,_,_),in_valid,trivial,.cons (.same _ _) (.cons (.same _ _) (.cons (.same _ _) .nil)),?_⟩
   ((conv=>whnf);repeat'((first|refine zo T rfl ?_|refine zl ?_);conv=>whnf))
   refine ⟨fun h=>?_,fun h=>?_⟩
   rotate_left
   ·(repeat'((first|refine zo T rfl ?_|refine zl ?_|refine zp h ?_|refine zq h ?_|refine zp rfl ?_|refine zq rfl ?_);conv=>whnf))
    refine W_cond rfl (fun _=>?_) (fun h=>by cases h)
    ((conv=>whnf);repeat'((first|refine zo T rfl ?_|refine zl ?_);conv=>whnf))
    refine W_ret ⟨.inr rfl,xI (code13 hf fun hs=>?_)⟩
    have hs:=hs.1
    have h:(!(decide (0 ≤ a) && decide (a ≤ (dims.length:Int) - 1))) = true:=h
    simp at h
    simp only at hs
    omega
   (repeat'((first|refine zo T rfl ?_|refine zl ?_|refine zp h ?_|refine zq h ?_|refine zp rfl ?_|refine zq rfl ?_);conv=>whnf))
   refine .inl ⟨useCon usesB,_,usesB_valid,trivial,.cons (.same _ _) .nil,?_⟩
   (repeat'((first|refine zo T rfl ?_|refine zl ?_|refine zp h ?_|refine zq h ?_|refine zp rfl ?_|refine zq rfl ?_);conv=>whnf))
   refine W_cond rfl (fun h3=>?_) (fun _=>?_)
   ·have h3:(cond (!(decide (0 ≤ a) && decide (a ≤ (dims.length:Int) - 1))) true false) = true:=h3
    have h:(!(decide (0 ≤ a) && decide (a ≤ (dims.length:Int) - 1))) = false:=h
    rw [h] at h3
    cases h3
   have h:(!(decide (0 ≤ a) && decide (a ≤ (dims.length:Int) - 1))) = false:=h
   simp at h
   have hsrc:srcIn (⟨6,a,b,k,s,v⟩:Nod) dims:=⟨⟨by show 0 ≤ a;omega,by show a < _;omega⟩,fun h4=>(by cases h4)⟩
   have da:=dims_at hd hsrc.1.1 hsrc.1.2
   have da:1 ≤ dims.getD a.toNat 0 ∧ dims.getD a.toNat 0 ≤ 1000:=da
   ((conv=>whnf);repeat'((first|refine zo T rfl ?_|refine zl ?_);conv=>whnf))
   refine ⟨by show 0 ≤ a;omega,by show a < (dims.map iRow).length;omega,_,rowMap dims iRow _,?_⟩
   (repeat'((first|refine zo T rfl ?_|refine zl ?_|refine zp rfl ?_|refine zq rfl ?_|refine zp rfl ?_|refine zq rfl ?_);conv=>whnf))
   refine W_cond rfl (fun h=>by cases h) (fun _=>?_)
   (repeat'((first|refine zo T rfl ?_|refine zl ?_|refine zp rfl ?_|refine zq rfl ?_|refine zp rfl ?_|refine zq rfl ?_);conv=>whnf))
   refine W_cond rfl (fun h=>by cases h) (fun _=>?_)
   (repeat'((first|refine zo T rfl ?_|refine zl ?_|refine zp rfl ?_|refine zq rfl ?_|refine zp rfl ?_|refine zq rfl ?_);conv=>whnf))
   refine W_cond rfl (fun h=>by cases h) (fun _=>?_)
   (repeat'((first|refine zo T rfl ?_|refine zl ?_|refine zp rfl ?_|refine zq rfl ?_|refine zp rfl ?_|refine zq rfl ?_);conv=>whnf))
   refine ⟨fun h4=>?_,fun h4=>?_⟩
   rotate_left
   ·(repeat'((first|refine zo T rfl ?_|refine zl ?_|refine zp h4 ?_|refine zq h4 ?_|refine zp rfl ?_|refine zq rfl ?_);conv=>whnf))
    refine W_cond rfl (fun _=>?_) (fun h=>by cases h)
    have h4:=of_decide_eq_true (show decide (k > dims.getD a.toNat 0) = true from h4)
    ((conv=>whnf);repeat'((first|refine zo T rfl ?_|refine zl ?_);conv=>whnf))
    exact W_ret ⟨.inr rfl,xI (code14 hf hsrc (by show shapeF _ (dims.getD a.toNat 0) _ = 0;rw [shape6,if_neg (by omega)]))⟩
   (repeat'((first|refine zo T rfl ?_|refine zl ?_|refine zp h4 ?_|refine zq h4 ?_|refine zp rfl ?_|refine zq rfl ?_);conv=>whnf))
   refine ⟨by show _ ≤ k + 1 ∧ k + 1 ≤ _;omega,?_⟩
   (repeat'((first|refine zo T rfl ?_|refine zl ?_|refine zp h4 ?_|refine zq h4 ?_|refine zp rfl ?_|refine zq rfl ?_);conv=>whnf))
   refine W_cond rfl (fun h5=>?_) (fun h5=>?_)
   ·have h5:(cond (decide (k > dims.getD a.toNat 0)) true (((v.map rowR).length:Int) != k + 1)) = true:=h5
    rw [show decide (k > dims.getD a.toNat 0) = false from h4] at h5
    have h5:=bne_iff_ne.1 (show (((v.map rowR).length:Int) != k + 1) = true from h5)
    ((conv=>whnf);repeat'((first|refine zo T rfl ?_|refine zl ?_);conv=>whnf))
    exact W_ret ⟨.inr rfl,xI (code14 hf hsrc (by show shapeF _ (dims.getD a.toNat 0) _ = 0;rw [shape6,if_neg (by omega)]))⟩
   have h5:(cond (decide (k > dims.getD a.toNat 0)) true (((v.map rowR).length:Int) != k + 1)) = false:=h5
   rw [show decide (k > dims.getD a.toNat 0) = false from h4] at h5
   have h5:=bne_eq_false_iff_eq.1 (show (((v.map rowR).length:Int) != k + 1) = false from h5)
   have h4:=of_decide_eq_false (show decide (k > dims.getD a.toNat 0) = false from h4)
   have hdim:¬ dimOf (⟨6,a,b,k,s,v⟩:Nod) dims = 0:=dim6 (by omega) (by omega) (by omega) (by omega)
   (repeat'((first|refine zo T rfl ?_|refine zl ?_|refine zp rfl ?_|refine zq rfl ?_|refine zp rfl ?_|refine zq rfl ?_);conv=>whnf))
   refine W_cond rfl (fun h=>by cases h) (fun _=>?_)
   ((conv=>whnf);repeat'((first|refine zo T rfl ?_|refine zl ?_);conv=>whnf))
   exact W_ret ⟨.inr rfl,xI (code0 hf hsrc hdim fun hx=>absurd (show (6:Int) = 7 from hx.1) (by decide))⟩
  ·have hf':=form7.1 hf
   ((conv=>whnf);repeat'((first|refine zo T rfl ?_|refine zl ?_);conv=>whnf))
   refine ⟨by show _ ≤ (dims.length:Int) - 1 ∧ (dims.length:Int) - 1 ≤ _;omega,?_⟩
   ((conv=>whnf);repeat'((first|refine zo T rfl ?_|refine zl ?_);conv=>whnf))
   refine .inl ⟨inCon,(_,_,_),in_valid,trivial,.cons (.same _ _) (.cons (.same _ _) (.cons (.same _ _) .nil)),?_⟩
   ((conv=>whnf);repeat'((first|refine zo T rfl ?_|refine zl ?_);conv=>whnf))
   refine ⟨fun h=>?_,fun h=>?_⟩
   rotate_left
   ·(repeat'((first|refine zo T rfl ?_|refine zl ?_|refine zp h ?_|refine zq h ?_|refine zp rfl ?_|refine zq rfl ?_);conv=>whnf))
    refine W_cond rfl (fun _=>?_) (fun h=>by cases h)
    ((conv=>whnf);repeat'((first|refine zo T rfl ?_|refine zl ?_);conv=>whnf))
    refine W_ret ⟨.inr rfl,xI (code13 hf fun hs=>?_)⟩
    have hs:=hs.1
    have h:(!(decide (0 ≤ a) && decide (a ≤ (dims.length:Int) - 1))) = true:=h
    simp at h
    simp only at hs
    omega
   (repeat'((first|refine zo T rfl ?_|refine zl ?_|refine zp h ?_|refine zq h ?_|refine zp rfl ?_|refine zq rfl ?_);conv=>whnf))
   refine .inl ⟨useCon usesB,_,usesB_valid,trivial,.cons (.same _ _) .nil,?_⟩
   (repeat'((first|refine zo T rfl ?_|refine zl ?_|refine zp h ?_|refine zq h ?_|refine zp rfl ?_|refine zq rfl ?_);conv=>whnf))
   refine W_cond rfl (fun h3=>?_) (fun _=>?_)
   ·have h3:(cond (!(decide (0 ≤ a) && decide (a ≤ (dims.length:Int) - 1))) true false) = true:=h3
    have h:(!(decide (0 ≤ a) && decide (a ≤ (dims.length:Int) - 1))) = false:=h
    rw [h] at h3
    cases h3
   have h:(!(decide (0 ≤ a) && decide (a ≤ (dims.length:Int) - 1))) = false:=h
   simp at h
   have hsrc:srcIn (⟨7,a,b,k,s,v⟩:Nod) dims:=⟨⟨by show 0 ≤ a;omega,by show a < _;omega⟩,fun h4=>(by cases h4)⟩
   have da:=dims_at hd hsrc.1.1 hsrc.1.2
   have da:1 ≤ dims.getD a.toNat 0 ∧ dims.getD a.toNat 0 ≤ 1000:=da
   ((conv=>whnf);repeat'((first|refine zo T rfl ?_|refine zl ?_);conv=>whnf))
   refine ⟨by show 0 ≤ a;omega,by show a < (dims.map iRow).length;omega,_,rowMap dims iRow _,?_⟩
   (repeat'((first|refine zo T rfl ?_|refine zl ?_|refine zp rfl ?_|refine zq rfl ?_|refine zp rfl ?_|refine zq rfl ?_);conv=>whnf))
   refine W_cond rfl (fun h=>by cases h) (fun _=>?_)
   (repeat'((first|refine zo T rfl ?_|refine zl ?_|refine zp rfl ?_|refine zq rfl ?_|refine zp rfl ?_|refine zq rfl ?_);conv=>whnf))
   refine W_cond rfl (fun h=>by cases h) (fun _=>?_)
   (repeat'((first|refine zo T rfl ?_|refine zl ?_|refine zp rfl ?_|refine zq rfl ?_|refine zp rfl ?_|refine zq rfl ?_);conv=>whnf))
   refine W_cond rfl (fun h=>by cases h) (fun _=>?_)
   (repeat'((first|refine zo T rfl ?_|refine zl ?_|refine zp rfl ?_|refine zq rfl ?_|refine zp rfl ?_|refine zq rfl ?_);conv=>whnf))
   refine W_cond rfl (fun h=>by cases h) (fun _=>?_)
   have hdim:¬ dimOf (⟨7,a,b,k,s,v⟩:Nod) dims = 0:=by show ¬ dims.getD a.toNat 0 = 0;omega
   (repeat'((first|refine zo T rfl ?_|refine zl ?_|refine zp rfl ?_|refine zq rfl ?_|refine zp rfl ?_|refine zq rfl ?_);conv=>whnf))
   refine ⟨by decide,by show (2:Int) < (v.map rowR).length;omega,_,rowMap v rowR _,?_⟩
   (repeat'((first|refine zo T rfl ?_|refine zl ?_|refine zp rfl ?_|refine zq rfl ?_|refine zp rfl ?_|refine zq rfl ?_);conv=>whnf))
   refine W_cond rfl (fun h4=>?_) (fun h4=>?_)
   ·have h4:=eq_of_beq (show ((((v.getD 2 default).2.1.map limRow).length:Int) == 0) = true from h4)
    rw [List.length_map] at h4
    ((conv=>whnf);repeat'((first|refine zo T rfl ?_|refine zl ?_);conv=>whnf))
    exact W_ret ⟨.inr rfl,xI (code15 hf hsrc hdim ⟨rfl,by show (v.getD 2 default).2.1.length = 0;omega⟩)⟩
   have h4:((((v.getD 2 default).2.1.map limRow).length:Int) == 0) = false:=h4
   have h4:=beq_eq_false_iff_ne.1 h4
   rw [List.length_map] at h4
   ((conv=>whnf);repeat'((first|refine zo T rfl ?_|refine zl ?_);conv=>whnf))
   exact W_ret ⟨.inr rfl,xI (code0 hf hsrc hdim fun hx=>h4 (by have e:(v.getD 2 default).2.1.length = 0:=hx.2;rw [e];rfl))⟩
end Go.Proofs.YtijldkknhphgcaaGreat.Pv
end

section
/- A node's dimension (the document's). No condition. -/
set_option linter.unusedVariables false
set_option linter.unusedSimpArgs false
namespace Go.Proofs.YtijldkknhphgcaaGreat.Pv
open Go.RowKit
def ndimF (n:Nod) (d:Int):Int:=if n.op = 1 then n.k else if n.op = 5 then d / n.k else if n.op = 6 then (d - n.k) / n.s + 1 else d
theorem ndim_eq {n:Nod} {d e:Int} (h:shapeF n d e ≠ 0):ndimF n d = shapeF n d e ∧ (n.op = 6 → n.k ≤ d):=by
 unfold shapeF at h ⊢
 unfold ndimF
 split
 ·rename_i h1
  rw [if_pos h1] at h
  refine ⟨?_,fun h6=>by omega⟩
  split
  ·rfl
  ·rename_i h2;rw [if_neg h2] at h;exact absurd rfl h
 rename_i h1
 rw [if_neg h1] at h
 by_cases h4:n.op = 4
 ·rw [if_pos h4] at h ⊢
  rw [if_neg (by omega),if_neg (by omega)]
  refine ⟨?_,fun h6=>by omega⟩
  split
  ·rfl
  ·rename_i h2;rw [if_neg h2] at h;exact absurd rfl h
 rw [if_neg h4] at h ⊢
 split
 ·rename_i h5
  rw [if_pos h5] at h
  refine ⟨?_,fun h6=>by omega⟩
  split
  ·rfl
  ·rename_i h2;rw [if_neg h2] at h;exact absurd rfl h
 rename_i h5
 rw [if_neg h5] at h
 split
 ·rename_i h6
  rw [if_pos h6] at h
  split
  ·rename_i h2;exact ⟨rfl,fun _=>h2.1⟩
  ·rename_i h2;rw [if_neg h2] at h;exact absurd rfl h
 ·rename_i h6
  exact ⟨rfl,fun h=>absurd h h6⟩
def ndimCon (rok:RtD → Bool):Con:=⟨Nod × Int,fun g=>[(true,rowN g.1),(false,[.v (.int .i64 g.2)])],fun g=>FormOk rok g.1 ∧ (1 ≤ g.2 ∧ g.2 ≤ 1000) ∧ (g.1.op = 6 → g.1.k ≤ g.2),fun _ g=>int .i64 (ndimF g.1 g.2),true⟩
theorem nodeDim_valid {rok:RtD → Bool}:Valid Tryz.prog 36 (ndimCon rok):=by
 refine valid_intro (ts:=[4]) (ndimCon rok) Tryz.func36 rfl rfl rfl (by decide) (fun _=>Nat.le_of_ble_eq_true rfl) ?_
 rintro ⟨⟨op,a,b,k,s,v⟩,d⟩ ⟨(hf:FormOk rok ⟨op,a,b,k,s,v⟩),(hd:1 ≤ d ∧ d ≤ 1000),(h6:op = 6 → k ≤ d)⟩ nm nx
 have hop:op = 1 ∨ op = 2 ∨ op = 3 ∨ op = 4 ∨ op = 5 ∨ op = 6 ∨ op = 7:=by
  unfold FormOk at hf
  simp only at hf
  omega
 rcases hop with rfl | rfl | rfl | rfl | rfl | rfl | rfl
 ·((conv=>whnf);repeat'((first|refine zo T rfl ?_|refine zl ?_);conv=>whnf))
  refine W_cond rfl (fun _=>?_) (fun h=>by cases h)
  ((conv=>whnf);repeat'((first|refine zo T rfl ?_|refine zl ?_);conv=>whnf))
  exact W_ret ⟨.inr rfl,xI rfl⟩
 iterate 3
  ·((conv=>whnf);repeat'((first|refine zo T rfl ?_|refine zl ?_);conv=>whnf))
   refine W_cond rfl (fun h=>by cases h) (fun _=>?_)
   ((conv=>whnf);repeat'((first|refine zo T rfl ?_|refine zl ?_);conv=>whnf))
   refine W_cond rfl (fun h=>by cases h) (fun _=>?_)
   ((conv=>whnf);repeat'((first|refine zo T rfl ?_|refine zl ?_);conv=>whnf))
   refine W_cond rfl (fun h=>by cases h) (fun _=>?_)
   ((conv=>whnf);repeat'((first|refine zo T rfl ?_|refine zl ?_);conv=>whnf))
   exact W_ret ⟨.inr rfl,xI rfl⟩
 ·have hf:=form5.1 hf
  ((conv=>whnf);repeat'((first|refine zo T rfl ?_|refine zl ?_);conv=>whnf))
  refine W_cond rfl (fun h=>by cases h) (fun _=>?_)
  ((conv=>whnf);repeat'((first|refine zo T rfl ?_|refine zl ?_);conv=>whnf))
  refine W_cond rfl (fun _=>?_) (fun h=>by cases h)
  ((conv=>whnf);repeat'((first|refine zo T rfl ?_|refine zl ?_);conv=>whnf))
  refine ⟨⟨by show 0 ≤ d;omega,by show 0 < k;omega,by show d ≤ _;omega⟩,?_⟩
  ((conv=>whnf);repeat'((first|refine zo T rfl ?_|refine zl ?_);conv=>whnf))
  exact W_ret ⟨.inr rfl,xI rfl⟩
 ·have hf:=form6.1 hf
  have hk:=h6 rfl
  ((conv=>whnf);repeat'((first|refine zo T rfl ?_|refine zl ?_);conv=>whnf))
  refine W_cond rfl (fun h=>by cases h) (fun _=>?_)
  ((conv=>whnf);repeat'((first|refine zo T rfl ?_|refine zl ?_);conv=>whnf))
  refine W_cond rfl (fun h=>by cases h) (fun _=>?_)
  ((conv=>whnf);repeat'((first|refine zo T rfl ?_|refine zl ?_);conv=>whnf))
  refine W_cond rfl (fun _=>?_) (fun h=>by cases h)
  ((conv=>whnf);repeat'((first|refine zo T rfl ?_|refine zl ?_);conv=>whnf))
  refine W_loop (ι:=Nat) (fun j=>(j:Int) * s ≤ d - k + s) (fun j=>⟨[(1,int .i64 d),(2,.one (.o false [.pt 0 0 0 1])),(5,int .i64 j),(6,int .i64 j)],[.p 73 6 [rowN ⟨6,a,b,k,s,v⟩]],37,nx,0⟩) (fun j=>1002 - j) 0 (by simp;omega) (by (refine St.le_mk ?_ ?_ ?_ ?_ ?_ ?_ ?_ <;> kernel_rfl)) ?_
  rintro j (hj:(j:Int) * s ≤ d - k + s)
  have hj0:0 ≤ (j:Int) * s:=Int.mul_nonneg (by omega) (by omega)
  have hj1:(j:Int) ≤ 1001:=by
   rcases Nat.eq_zero_or_pos j with rfl | h0
   ·decide
   ·have h3:((j:Int) - 1) * 1 ≤ ((j:Int) - 1) * s:=Int.mul_le_mul_of_nonneg_left (by omega) (by omega)
    simp only [Int.sub_mul] at h3
    omega
  ((conv=>whnf);repeat'((first|refine zo T rfl ?_|refine zl ?_);conv=>whnf))
  refine ⟨by show _ ≤ (j:Int) * s ∧ (j:Int) * s ≤ _;omega,?_⟩
  ((conv=>whnf);repeat'((first|refine zo T rfl ?_|refine zl ?_);conv=>whnf))
  refine ⟨by show _ ≤ (j:Int) * s + k ∧ (j:Int) * s + k ≤ _;omega,?_⟩
  ((conv=>whnf);repeat'((first|refine zo T rfl ?_|refine zl ?_);conv=>whnf))
  refine W_cond rfl (fun h=>?_) (fun h=>?_)
  ·have h:=of_decide_eq_true (show decide ((j:Int) * s + k ≤ d) = true from h)
   ((conv=>whnf);repeat'((first|refine zo T rfl ?_|refine zl ?_);conv=>whnf))
   refine ⟨by show _ ≤ (j:Int) + 1 ∧ (j:Int) + 1 ≤ _;omega,?_⟩
   ((conv=>whnf);repeat'((first|refine zo T rfl ?_|refine zl ?_);conv=>whnf))
   refine ⟨by show _ ≤ (j:Int) + 1 ∧ (j:Int) + 1 ≤ _;omega,?_⟩
   ((conv=>whnf);repeat'((first|refine zo T rfl ?_|refine zl ?_);conv=>whnf))
   refine ⟨j + 1,?_,by omega,by (refine St.le_mk ?_ ?_ ?_ ?_ ?_ ?_ ?_ <;> kernel_rfl)⟩
   show ((j + 1:Nat):Int) * s ≤ d - k + s
   rw [Int.natCast_add,Int.add_mul]
   omega
  ·have h:=of_decide_eq_false (show decide ((j:Int) * s + k ≤ d) = false from h)
   ((conv=>whnf);repeat'((first|refine zo T rfl ?_|refine zl ?_);conv=>whnf))
   refine W_ret ⟨.inr rfl,xI ?_⟩
   show (j:Int) = (d - k) / s + 1
   have e1:(j:Int) - 1 ≤ (d - k) / s:=(Int.le_ediv_iff_mul_le (by omega)).2 (by rw [Int.sub_mul];omega)
   have e2:(d - k) / s < j:=(Int.ediv_lt_iff_lt_mul (by omega)).2 (by omega)
   omega
 ·((conv=>whnf);repeat'((first|refine zo T rfl ?_|refine zl ?_);conv=>whnf))
  refine W_cond rfl (fun h=>by cases h) (fun _=>?_)
  ((conv=>whnf);repeat'((first|refine zo T rfl ?_|refine zl ?_);conv=>whnf))
  refine W_cond rfl (fun h=>by cases h) (fun _=>?_)
  ((conv=>whnf);repeat'((first|refine zo T rfl ?_|refine zl ?_);conv=>whnf))
  refine W_cond rfl (fun h=>by cases h) (fun _=>?_)
  ((conv=>whnf);repeat'((first|refine zo T rfl ?_|refine zl ?_);conv=>whnf))
  exact W_ret ⟨.inr rfl,xI rfl⟩
end Go.Proofs.YtijldkknhphgcaaGreat.Pv
end

section
/- Naturals as lists of limbs: trimming, plain lists, product, comparison, shifts, and the laws' helpers for lists. The conditions stand with each part. -/
set_option linter.unusedVariables false
set_option linter.unusedSimpArgs false
namespace Go.Proofs.YtijldkknhphgcaaGreat.Hand
open Go.RowKit Go.Proofs.YtijldkknhphgcaaGreatW.PrintWords Go.Proofs.YtijldkknhphgcaaGreatW.PrintLast Go.Proofs.YtijldkknhphgcaaGreatW.PrintMore
def Blk (w:World) (g:Nat) (t:TypeId) (cs:Array Value):Prop:=w.heap[g]? = some (.cells cs t (0,0))
section
variable {w w':World} {g:Nat} {t:TypeId} {cs:Array Value}
theorem Blk.lt (h:Blk w g t cs):g < w.heap.size:=by
 rcases Nat.lt_or_ge g w.heap.size with hlt | hge
 ·exact hlt
 ·unfold Blk at h;rw [Array.getElem?_eq_none hge] at h;cases h
theorem Blk.cell (h:Blk w g t cs) (i:Nat):w.cell? ⟨g,i,none⟩ = cs[i]?:=cell_of_row w g i cs t (0,0) h
theorem Blk.frozen (h:Blk w g t cs) (i:Nat):w.frozen? ⟨g,i,none⟩ = false:=by
 unfold Blk at h
 simp [World.frozen?,h]
theorem Blk.new (w:World) (t:TypeId) (cs:Array Value):Blk (w.alloc (.cells cs t)) w.heap.size t cs:=heap_alloc_new w _
theorem Blk.drew (h:Blk w g t cs):Blk w.drew g t cs:=h
theorem Blk.drewN (h:Blk w g t cs) (n:Nat):Blk (w.drewN n) g t cs:=h
theorem Blk.alloc (h:Blk w g t cs) (o:Obj):Blk (w.alloc o) g t cs:=(Below.heap_alloc w o g h.lt).trans h
theorem Blk.set_ (h:Blk w g t cs) (i:Nat) (u:Value):Blk (w.setCell ⟨g,i,none⟩ u) g t (cs.setIfInBounds i u):=by
 unfold Blk at h ⊢
 simp [World.setCell,Array.getElem?_modify,h]
theorem Blk.far (h:Blk w g t cs) {p:Addr} (hp:g ≠ p.block) (u:Value):Blk (w.setCell p u) g t cs:=(Below.heap_setCell w p u g hp).trans h
theorem Blk.below {B:Nat} (h:Blk w g t cs) (hb:Below B w w') (hg:g < B):Blk w' g t cs:=(hb.block g hg).trans h
theorem Blk.grown {row:Option Nat} (h:Blk w g t cs) (hb:w.grownBy w' row) (hg:some g ≠ row):Blk w' g t cs:=(hb.block g h.lt hg).trans h
end
theorem grown_drewN {a w:World} {row:Option Nat} (h:a.grownBy w row) (n:Nat):a.grownBy (w.drewN n) row:=⟨h.os,h.tape,h.output,h.size,h.block⟩
theorem grown_set {a w:World} {g:Nat} (h:a.grownBy w (some g)) {p:Addr} (hp:p.block = g ∨ a.heap.size ≤ p.block) (u:Value):a.grownBy (w.setCell p u) (some g) :=
 ⟨h.os,h.tape,h.output,by simpa [World.setCell] using h.size,fun i hi hne=>(Below.heap_setCell w p u i (by
  rintro rfl
  rcases hp with hp | hp
  ·exact hne (by rw [hp])
  ·omega)).trans (h.block i hi hne)⟩
theorem reads_set {w:World} {k:IntKind} {A:Option Addr} {n:Nat} {xs:List Int} {g:Nat} {t:TypeId} {v:Value} (h:(Kd.int k).C w A n xs) (hb:Blk w g t #[v]) (hv:∀ x,v ≠ .int k x) (u:Value) :
  (Kd.int k).C (w.setCell ⟨g,0,none⟩ u) A n xs:=by
 refine ⟨h.1,h.2.1,fun hn=>?_⟩
 obtain ⟨ad,e,hc⟩:=h.2.2 hn
 refine ⟨ad,e,fun j p hj=>?_⟩
 obtain ⟨c,hl,hK,hcell⟩:=hc j p hj
 refine ⟨c,hl,hK,fun i x hx=>?_⟩
 have h1:=hcell i x hx
 have hce:c = [.int k p]:=hK
 have hxe:x = .int k p:=by
  subst hce
  rcases i with _ | i
  ·simpa using hx.symm
  ·simp at hx
 by_cases he:ad.add (j * (Kd.int k).sz + i) = ⟨g,0,none⟩
 ·rw [he,hb.cell] at h1
  simp at h1
  exact absurd (h1.trans hxe) (hv p)
 ·rw [World.cell?_setCell_other w _ _ _ (Ne.symm he)];exact h1
def trimTo (l:List Int):Nat → Nat
 | 0=>0
 | n + 1=>if rd l (n:Int) = 0 then trimTo l n else n + 1
def trimN (l:List Int):Nat:=trimTo l l.length
theorem trimTo_le (l:List Int):∀ n,trimTo l n ≤ n
 | 0=>Nat.le_refl _
 | n + 1=>by
  unfold trimTo
  split
  ·exact Nat.le_succ_of_le (trimTo_le l n)
  ·exact Nat.le_refl _
theorem trimN_le (l:List Int):trimN l ≤ l.length:=trimTo_le l _
def trimL (l:List Int):List Int:=l.take (trimN l)
end Go.Proofs.YtijldkknhphgcaaGreat.Hand
set_option linter.unusedVariables false
set_option linter.unusedSimpArgs false
namespace Go.Proofs.YtijldkknhphgcaaGreat.Hand
open Go.RowKit Go.Proofs.YtijldkknhphgcaaGreatW.PrintWords Go.Proofs.YtijldkknhphgcaaGreatW.PrintLast Go.Proofs.YtijldkknhphgcaaGreatW.PrintMore
theorem infoU:(Tryz.prog.info? 134).map (fun i=>(i.zero,i.size,i.bytes)) = some (some (.int .u32 0),1,4):=by kernel_rfl
set_option maxHeartbeats 1000000 in
theorem trim_calls (g:Nat) (A:Option Addr) (c:Nat) (l:List Int) (w:World) (hb:Blk w g 117 #[.slice A l.length c]) (hr:(Kd.int .u32).C w A l.length l) (hc:l.length ≤ c) :
  Calls Tryz.prog 112 #[.pointer (some ⟨g,0,none⟩)] w fun e w'=>e = .returned (.slice A (trimN l) c) ∧ w.grownBy w' (some g) ∧ Blk w' g 117 #[.slice A (trimN l) c]:=by
 have HC:=Aside0.mk hc
 have hlen:l.length ≤ 9223372036854775807:=hr.2.1
 have HR:=Aside0.mk hr
 have HBl:=Aside0.mk hb
 clear hb hr hc
 go_enter Tryz.func112,Tryz.ntmps112
 go_wp2
 go_loopg [] l.length (fun k w'=>Aside0 (k ≤ l.length ∧ trimTo l k = trimN l) ∧ Aside0 ((Kd.int .u32).C w' A l.length l) ∧ Aside0 (w.grownBy w' (some g)) ∧ Aside0 (Blk w' g 117 #[.slice A k c]))
 case atStart=>exact ⟨⟨Nat.le_refl _,rfl⟩,HR,⟨World.grownBy.refl _ _⟩,HBl⟩
 case round =>
  clear HR HBl
  obtain ⟨HK,HR,HG,HBl⟩:=hrel
  obtain ⟨hk,ht⟩:=HK.out
  clear HK
  have HT:=Aside0.mk ht
  clear ht
  have hcell:wr.cell? ⟨g,0,none⟩ = some (.slice A gk c):=HBl.out.cell 0
  have hfro:=HBl.out.frozen 0
  cases gk with
  | zero =>
   go_wp2
   go_quiet (fail)
   go_wp2
   go_ret
   exact ⟨by rw [← HT.out];rfl,grown_drewN HG.out _,by rw [← HT.out];exact HBl.out.drewN _⟩
  | succ k1 =>
   obtain ⟨ad,e1,hx⟩:=Kd.at_int HR.out (k1:Int) (by omega) (by omega)
   subst e1
   have hk0:decide ((0:Int) < ((k1 + 1:Nat):Int)) = true:=decide_eq_true (by omega)
   have hj:((k1 + 1:Nat):Int) - 1 = (k1:Int):=by omega
   have hw:IntKind.i64.wrap (k1:Int) = (k1:Int):=IntWalk.i64_in _ ⟨by omega,by omega⟩
   have hq:(k1:Int) < (k1:Int) + 1:=by omega
   have hkc:k1 ≤ c:=by have:=HC.out;omega
   rw [Int.toNat_natCast] at hx
   by_cases hz:rd l (k1:Int) = 0
   ·rw [hz] at hx
    go_wp2
    go_quiet (fail)
    go_wp2
    go_region
    all_goals
     go_wp2
     go_roundg k1
     case measure=>omega
     case rel =>
      have ht:trimTo l k1 = trimN l:=by
       rw [← HT.out]
       unfold trimTo
       rw [if_pos hz]
       cases k1 <;> rfl
      exact ⟨⟨by omega,ht⟩,⟨reads_set (Kd.C_below HR.out (Drawn0.mk ⟨_,rfl⟩).below) (HBl.out.drewN _) (fun _ h=>by cases h) _⟩,⟨grown_set (grown_drewN HG.out _) (.inl rfl) _⟩,⟨(HBl.out.drewN _).set_ 0 _⟩⟩
   ·have hz1:(rd l (k1:Int) == 0) = false:=by simpa using hz
    go_wp2
    go_quiet (fail)
    go_wp2
    go_ret
    have ht:k1 + 1 = trimN l:=by
     rw [← HT.out]
     unfold trimTo
     rw [if_neg hz]
    exact ⟨by rw [← ht];rfl,grown_drewN HG.out _,by rw [← ht];exact HBl.out.drewN _⟩
end Go.Proofs.YtijldkknhphgcaaGreat.Hand
set_option linter.unusedVariables false
set_option linter.unusedSimpArgs false
namespace Go.Proofs.YtijldkknhphgcaaGreat.Hand
open Go.RowKit Go.Proofs.YtijldkknhphgcaaGreatW.PrintWords Go.Proofs.YtijldkknhphgcaaGreatW.PrintLast Go.Proofs.YtijldkknhphgcaaGreatW.PrintMore
def small64 (x:Int):List Int:=trimL [x % 4294967296,x / 4294967296]
theorem trim_two (a b:Int) (w:World) :
  Calls Tryz.prog 112 #[.pointer (some ⟨w.heap.size + 1,0,none⟩)] ((w.alloc (.cells #[.int .u32 a,.int .u32 b] 134)).alloc (.cells #[.slice (some ⟨w.heap.size,0,none⟩) 2 2] 117))
   fun e w'=>∃ v,e = .returned v ∧ (Kd.int .u32).R 134 w' w.heap.size (fun _=>True) v (trimL [a,b]) ∧ Below w.heap.size w w':=by
 have HO:=show (Kd.int .u32).R 134 (w.alloc (.cells #[.int .u32 a,.int .u32 b] 134)) w.heap.size (fun k=>k = w.heap.size) (.slice (some ⟨w.heap.size,0,none⟩) 2 2) [a,b] from
  Kd.R_of_own (own_lit w w.heap.size 134 .u32 [a,b] (Nat.le_refl _) (by simp)) (fun k hk=>by simpa [Value.ownBlock] using hk.symm)
 have hs:(w.alloc (.cells #[.int .u32 a,.int .u32 b] 134)).heap.size = w.heap.size + 1:=by simp
 have hbx:=Blk.new (w.alloc (.cells #[.int .u32 a,.int .u32 b] 134)) 117 #[.slice (some ⟨w.heap.size,0,none⟩) 2 2]
 rw [hs] at hbx
 refine (trim_calls (w.heap.size + 1) (some ⟨w.heap.size,0,none⟩) 2 [a,b] _ hbx (Kd.C_below (Kd.R_reads' HO).2.2 (below_alloc (Below.refl _ _) _)) (Nat.le_refl _)).mono ?_
 rintro e w' ⟨rfl,hg,hb⟩
 refine ⟨_,rfl,Kd.R_mono (Kd.R_take (m:=trimN [a,b]) (Kd.R_grown (Kd.R_alloc HO _) hg (by rintro k rfl h;injection h with h;omega)) (trimN_le _)) (fun _ _=>trivial),?_⟩
 exact pw_below_grown (below_alloc (below_alloc (Below.refl w.heap.size w) _) _) _ (by simp;omega) hg (by intro k hk;injection hk with hk;omega)
set_option maxHeartbeats 1000000 in
theorem small_calls (x:Int) (h0:0 ≤ x) (h1:x < 18446744073709551616) (w:World) :
  Calls Tryz.prog 111 #[.int .u64 x] w fun e w'=>∃ v,e = .returned v ∧ (Kd.int .u32).R 134 w' w.heap.size (fun _=>True) v (small64 x) ∧ Below w.heap.size w w':=by
 go_enter Tryz.func111,Tryz.ntmps111
 go_wp2_with fail
 refine (trim_two _ _ w).mono ?_
 rintro e w' ⟨v,rfl,ho,hb⟩
 have HO:=Aside0.mk ho
 have HB:=Aside0.mk hb
 clear ho hb
 go_wp2
 go_ret
 exact ⟨_,rfl,HO.out,HB.out⟩
end Go.Proofs.YtijldkknhphgcaaGreat.Hand
set_option linter.unusedVariables false
set_option linter.unusedSimpArgs false
namespace Go.Proofs.YtijldkknhphgcaaGreat.Hand
open Go.RowKit Go.Proofs.YtijldkknhphgcaaGreatW.PrintWords
def val:List Int → Nat
 | []=>0
 | x :: xs=>x.toNat + 4294967296 * val xs
def Limbs (l:List Int):Prop:=∀ x ∈ l,0 ≤ x ∧ x < 4294967296
def lim (n:Nat):List Int:=if h:n = 0 then [] else ((n % 4294967296:Nat):Int) :: lim (n / 4294967296)
termination_by n
decreasing_by omega
def Plain (l:List Int):Prop:=∀ h:l ≠ [],l.getLast h ≠ 0
theorem lim_zero:lim 0 = []:=by rw [lim];simp
theorem lim_pos {n:Nat} (h:n ≠ 0):lim n = ((n % 4294967296:Nat):Int) :: lim (n / 4294967296):=by rw [lim];simp [h]
theorem lim_nil_iff {n:Nat}:lim n = [] ↔ n = 0:=by
 constructor
 ·intro h
  rcases Nat.eq_zero_or_pos n with h0 | h0
  ·exact h0
  ·rw [lim_pos (by omega)] at h;simp at h
 ·rintro rfl;exact lim_zero
theorem val_lim (n:Nat):val (lim n) = n:=by
 induction n using Nat.strongRecOn with
 | _ n ih =>
  rcases Nat.eq_zero_or_pos n with h | h
  ·subst h;rw [lim_zero];rfl
  ·rw [lim_pos (by omega),val,ih _ (by omega)];omega
theorem limbs_lim (n:Nat):Limbs (lim n):=by
 induction n using Nat.strongRecOn with
 | _ n ih =>
  rcases Nat.eq_zero_or_pos n with h | h
  ·subst h;rw [lim_zero];intro x hx;simp at hx
  ·rw [lim_pos (by omega)]
   intro x hx
   rcases List.mem_cons.1 hx with rfl | hx
   ·omega
   ·exact ih _ (by omega) x hx
theorem Limbs.nil:Limbs []:=fun x hx=>by simp at hx
theorem Limbs.tail {x:Int} {xs:List Int} (h:Limbs (x :: xs)):Limbs xs:=fun y hy=>h y (List.mem_cons_of_mem _ hy)
theorem Limbs.head {x:Int} {xs:List Int} (h:Limbs (x :: xs)):0 ≤ x ∧ x < 4294967296:=h x List.mem_cons_self
theorem Limbs.cons {x:Int} {xs:List Int} (hx:0 ≤ x ∧ x < 4294967296) (h:Limbs xs):Limbs (x :: xs):=fun y hy=>by
 rcases List.mem_cons.1 hy with rfl | hy
 ·exact hx
 ·exact h y hy
theorem Limbs.append {a b:List Int} (ha:Limbs a) (hb:Limbs b):Limbs (a ++ b):=fun y hy=>by
 rcases List.mem_append.1 hy with hy | hy
 ·exact ha y hy
 ·exact hb y hy
theorem Limbs.take {a:List Int} (ha:Limbs a) (n:Nat):Limbs (a.take n):=fun y hy=>ha y (List.mem_of_mem_take hy)
theorem Limbs.drop {a:List Int} (ha:Limbs a) (n:Nat):Limbs (a.drop n):=fun y hy=>ha y (List.mem_of_mem_drop hy)
theorem Limbs.set {a:List Int} (ha:Limbs a) (i:Nat) {x:Int} (hx:0 ≤ x ∧ x < 4294967296):Limbs (a.set i x):=fun y hy=>by
 rcases List.mem_or_eq_of_mem_set hy with hy | rfl
 ·exact ha y hy
 ·exact hx
theorem limbs_rd {a:List Int} (ha:Limbs a) (i:Int):0 ≤ rd a i ∧ rd a i < 4294967296:=by
 unfold rd
 rw [List.getD_eq_getElem?_getD]
 rcases Nat.lt_or_ge i.toNat a.length with h | h
 ·rw [List.getElem?_eq_getElem h]
  exact ha _ (List.getElem_mem h)
 ·rw [List.getElem?_eq_none h];simp
theorem Limbs.replicate (n:Nat):Limbs (List.replicate n 0):=fun y hy=>by
 have:=List.eq_of_mem_replicate hy;omega
theorem val_replicate (n:Nat):val (List.replicate n 0) = 0:=by
 induction n with
 | zero=>rfl
 | succ n ih=>rw [List.replicate_succ,val,ih];rfl
theorem val_append (a b:List Int):val (a ++ b) = val a + 4294967296 ^ a.length * val b:=by
 induction a with
 | nil=>simp [val]
 | cons x xs ih =>
  simp only [List.cons_append,val,List.length_cons,Nat.pow_succ,ih]
  rw [Nat.mul_add,Nat.mul_comm (4294967296 ^ xs.length) 4294967296,Nat.mul_assoc,Nat.add_assoc]
theorem val_lt {a:List Int} (h:Limbs a):val a < 4294967296 ^ a.length:=by
 induction a with
 | nil=>simp [val]
 | cons x xs ih =>
  have h1:=ih h.tail
  have h2:=h.head
  rw [val,List.length_cons,Nat.pow_succ]
  have:val xs + 1 ≤ 4294967296 ^ xs.length:=h1
  have h3:(val xs + 1) * 4294967296 ≤ 4294967296 ^ xs.length * 4294967296:=Nat.mul_le_mul_right _ this
  omega
theorem rd_lt {a:List Int} {i:Nat} (h:i < a.length):rd a (i:Int) = a[i]:=by
 unfold rd
 rw [Int.toNat_natCast,List.getD_eq_getElem?_getD,List.getElem?_eq_getElem h];rfl
theorem val_take_succ (a:List Int) (i:Nat) (h:i < a.length):val (a.take (i + 1)) = val (a.take i) + (rd a (i:Int)).toNat * 4294967296 ^ i:=by
 rw [List.take_succ_eq_append_getElem h,val_append,List.length_take,Nat.min_eq_left (Nat.le_of_lt h),rd_lt h]
 simp [val,Nat.mul_comm]
theorem val_drop (a:List Int) (i:Nat) (h:i < a.length):val (a.drop i) = (rd a (i:Int)).toNat + 4294967296 * val (a.drop (i + 1)):=by
 rw [List.drop_eq_getElem_cons h,val,rd_lt h]
theorem val_split (a:List Int) (i:Nat) (h:i ≤ a.length):val a = val (a.take i) + 4294967296 ^ i * val (a.drop i):=by
 have:=val_append (a.take i) (a.drop i)
 rw [List.take_append_drop,List.length_take,Nat.min_eq_left h] at this
 exact this
theorem val_set (a:List Int) (i:Nat) (y:Int) (h:i < a.length):val (a.set i y) + (rd a (i:Int)).toNat * 4294967296 ^ i = val a + y.toNat * 4294967296 ^ i:=by
 induction a generalizing i with
 | nil=>simp at h
 | cons x xs ih =>
  cases i with
  | zero=>simp [val,rd];omega
  | succ i =>
   have h':i < xs.length:=by simpa using h
   have:=ih i h'
   rw [rd_lt h'] at this
   rw [rd_lt h]
   simp only [List.set_cons_succ,val,List.getElem_cons_succ,Nat.pow_succ]
   rw [← Nat.mul_assoc,← Nat.mul_assoc]
   omega
theorem trimTo_val (l:List Int):∀ n,n ≤ l.length → val (l.take (trimTo l n)) = val (l.take n)
 | 0,_=>rfl
 | n + 1,h=>by
  unfold trimTo
  split
  ·rename_i hz
   rw [trimTo_val l n (by omega),val_take_succ l n (by omega),hz]
   simp
  ·rfl
theorem val_trimL (l:List Int):val (trimL l) = val l:=by
 unfold trimL trimN
 rw [trimTo_val l _ (Nat.le_refl _),List.take_length]
theorem limbs_trimL {l:List Int} (h:Limbs l):Limbs (trimL l):=h.take _
theorem trimTo_last (l:List Int):∀ n,n ≤ l.length → trimTo l n = 0 ∨ ∃ m,trimTo l n = m + 1 ∧ m < l.length ∧ rd l (m:Int) ≠ 0
 | 0,_=>.inl rfl
 | n + 1,h=>by
  unfold trimTo
  split
  ·exact trimTo_last l n (by omega)
  ·rename_i hz
   exact .inr ⟨n,rfl,by omega,hz⟩
theorem plain_trimL (l:List Int):Plain (trimL l):=by
 intro hne
 rcases trimTo_last l l.length (Nat.le_refl _) with h | ⟨m,h,hm,hz⟩
 ·exfalso
  apply hne
  unfold trimL trimN
  rw [h];rfl
 ·have ht:trimL l = l.take m ++ [l[m]]:=by
   unfold trimL trimN
   rw [h,List.take_succ_eq_append_getElem hm]
  have he:=rd_lt hm
  simp only [ht,List.getLast_append,List.getLast_singleton]
  simp only [← he]
  simpa using hz
theorem Plain.tail {x:Int} {xs:List Int} (h:Plain (x :: xs)):Plain xs:=fun hne=>by
 have:=h (by simp)
 rwa [List.getLast_cons hne] at this
theorem val_pos_of_plain {l:List Int} (hl:Limbs l) (hp:Plain l) (hne:l ≠ []):0 < val l:=by
 induction l with
 | nil=>exact absurd rfl hne
 | cons x xs ih =>
  rw [val]
  rcases xs with _ | ⟨y,ys⟩
  ·have h1:=hp (by simp)
   simp at h1
   have:=hl.head
   omega
  ·have:=ih hl.tail hp.tail (by simp)
   omega
theorem lim_val {l:List Int} (hl:Limbs l) (hp:Plain l):lim (val l) = l:=by
 induction l with
 | nil=>exact lim_zero
 | cons x xs ih =>
  have hpos:=val_pos_of_plain hl hp (by simp)
  have h2:=hl.head
  rw [lim_pos (by omega),val]
  have e1:(x.toNat + 4294967296 * val xs) % 4294967296 = x.toNat:=by omega
  have e2:(x.toNat + 4294967296 * val xs) / 4294967296 = val xs:=by omega
  rw [e1,e2,ih hl.tail hp.tail]
  congr 1
  omega
theorem trimL_eq {l:List Int} (h:Limbs l):trimL l = lim (val l):=by
 rw [← val_trimL l,lim_val (limbs_trimL h) (plain_trimL l)]
theorem plain_lim (n:Nat):Plain (lim n):=by
 induction n using Nat.strongRecOn with
 | _ n ih =>
  rcases Nat.eq_zero_or_pos n with h | h
  ·subst h;rw [lim_zero];intro hne;exact absurd rfl hne
  ·rw [lim_pos (by omega)]
   intro hne
   by_cases hd:n / 4294967296 = 0
   ·simp only [hd,lim_zero,List.getLast_singleton]
    omega
   ·have hn:lim (n / 4294967296) ≠ []:=fun h=>hd (lim_nil_iff.1 h)
    rw [List.getLast_cons hn]
    exact ih _ (by omega) hn
theorem lim_length_le {n k:Nat} (h:n < 4294967296 ^ k):(lim n).length ≤ k:=by
 induction k generalizing n with
 | zero =>
  have:n = 0:=by simpa using h
  subst this;rw [lim_zero];simp
 | succ k ih =>
  rcases Nat.eq_zero_or_pos n with h0 | h0
  ·subst h0;rw [lim_zero];simp
  ·rw [lim_pos (by omega),List.length_cons]
   have:=ih (n:=n / 4294967296) (by
    rw [Nat.div_lt_iff_lt_mul (by omega)]
    rwa [Nat.pow_succ] at h)
   omega
theorem val_one (x:Int):val [x] = x.toNat:=by simp [val]
theorem trimN_of_plain {l:List Int} (hp:Plain l):trimN l = l.length:=by
 unfold trimN
 rcases l.length.eq_zero_or_pos with h | h
 ·rw [h];rfl
 ·obtain ⟨m,hm⟩:∃ m,l.length = m + 1:=⟨l.length - 1,by omega⟩
  have hne:l ≠ []:=by intro e;subst e;simp at h
  have:=hp hne
  rw [hm]
  unfold trimTo
  rw [if_neg]
  intro hz
  rw [rd_lt (by omega)] at hz
  apply this
  rw [List.getLast_eq_getElem]
  simp only [hm]
  exact hz
theorem trimL_of_plain {l:List Int} (hp:Plain l):trimL l = l:=by
 unfold trimL
 rw [trimN_of_plain hp,List.take_length]
end Go.Proofs.YtijldkknhphgcaaGreat.Hand
set_option linter.unusedVariables false
set_option linter.unusedSimpArgs false
namespace Go.Proofs.YtijldkknhphgcaaGreat.Hand
open Go.RowKit Go.Proofs.YtijldkknhphgcaaGreatW.PrintWords
def MulIn (x:Int) (m o0:List Int) (i j:Nat) (c:Int) (o:List Int):Prop :=
 o.length = o0.length ∧ Limbs o ∧ 0 ≤ c ∧ c < 4294967296 ∧ val o + c.toNat * 4294967296 ^ (i + j) = val o0 + x.toNat * val (m.take j) * 4294967296 ^ i ∧ ∀ k:Nat,i + j ≤ k → rd o (k:Int) = rd o0 (k:Int)
theorem mulIn_start {x:Int} {m o:List Int} {i:Nat} (ho:Limbs o):MulIn x m o i 0 0 o :=
 ⟨rfl,ho,by omega,by omega,by simp [val],fun _ _=>rfl⟩
theorem limb_prod {x y:Int} (hx:0 ≤ x ∧ x < 4294967296) (hy:0 ≤ y ∧ y < 4294967296):0 ≤ x * y ∧ x * y ≤ 18446744065119617025:=by
 refine ⟨Int.mul_nonneg hx.1 hy.1,?_⟩
 have h1:x * y ≤ 4294967295 * y:=Int.mul_le_mul_of_nonneg_right (by omega) hy.1
 omega
theorem rd_set_ne {o:List Int} {i k:Nat} (v:Int) (h:i ≠ k):rd (o.set i v) (k:Int) = rd o (k:Int):=by
 unfold rd
 rw [Int.toNat_natCast,List.getD_eq_getElem?_getD,List.getD_eq_getElem?_getD,List.getElem?_set_ne h]
theorem rd_set_eq {o:List Int} {i:Nat} (v:Int) (h:i < o.length):rd (o.set i v) (i:Int) = v:=by
 unfold rd
 rw [Int.toNat_natCast,List.getD_eq_getElem?_getD,List.getElem?_set_self h];rfl
theorem mulIn_step {x:Int} {m o0 o:List Int} {i j:Nat} {c t:Int} (hx:0 ≤ x ∧ x < 4294967296) (hm:Limbs m) (h:MulIn x m o0 i j c o) (hj:j < m.length) (hij:i + j < o.length)
  (ht:t = c + (x * rd m (j:Int) + rd o ((i + j:Nat):Int))) :
  MulIn x m o0 i (j + 1) (t / 4294967296) (o.set (i + j) (t % 4294967296)):=by
 obtain ⟨h1,h2,h3,h4,h5,h6⟩:=h
 have hy:=limbs_rd hm (j:Int)
 have hr:=limbs_rd h2 ((i + j:Nat):Int)
 have hp:=limb_prod hx hy
 have ht0:0 ≤ t ∧ t ≤ 18446744073709551615:=by rw [ht];omega
 refine ⟨by rw [List.length_set];exact h1,h2.set _ (by omega),by omega,by omega,?_,fun k hk=>?_⟩
 ·have hs:=val_set o (i + j) (t % 4294967296) hij
  have hts:=val_take_succ m j hj
  have htn:t.toNat = c.toNat + (x.toNat * (rd m (j:Int)).toNat + (rd o ((i + j:Nat):Int)).toNat):=by
   rw [ht,Int.toNat_add h3 (by omega),Int.toNat_add hp.1 hr.1,Int.toNat_mul hx.1 hy.1]
  have hq:(t / 4294967296).toNat * 4294967296 + (t % 4294967296).toNat = t.toNat:=by omega
  generalize (t / 4294967296).toNat = q at *
  generalize (t % 4294967296).toNat = u at *
  generalize (rd m (j:Int)).toNat = y at *
  generalize (rd o ((i + j:Nat):Int)).toNat = z at *
  generalize c.toNat = cn at *
  generalize x.toNat = xn at *
  rw [hts]
  have e1:4294967296 ^ (i + (j + 1)) = 4294967296 ^ (i + j) * 4294967296:=by rw [← Nat.add_assoc,Nat.pow_succ]
  have e2:xn * (val (m.take j) + y * 4294967296 ^ j) * 4294967296 ^ i = xn * val (m.take j) * 4294967296 ^ i + xn * y * 4294967296 ^ (i + j):=by
   rw [Nat.pow_add,Nat.mul_add,Nat.add_mul]
   congr 1
   rw [Nat.mul_comm (4294967296 ^ i),← Nat.mul_assoc,← Nat.mul_assoc]
  rw [e1,e2]
  have e3:q * (4294967296 ^ (i + j) * 4294967296) + u * 4294967296 ^ (i + j) = (cn + (xn * y + z)) * 4294967296 ^ (i + j):=by
   rw [← htn,← hq,Nat.add_mul,Nat.mul_comm (4294967296 ^ (i + j)) 4294967296,Nat.mul_assoc]
  rw [Nat.add_mul,Nat.add_mul] at e3
  omega
 ·rw [rd_set_ne _ (by omega)]
  exact h6 k (by omega)
def MulOut (n m:List Int) (i:Nat) (o:List Int):Prop :=
 o.length = n.length + m.length ∧ Limbs o ∧ val o = val (n.take i) * val m ∧ ∀ k:Nat,i + m.length ≤ k → rd o (k:Int) = 0
theorem mulOut_start (n m:List Int):MulOut n m 0 (List.replicate (n.length + m.length) 0):=by
 refine ⟨by simp,Limbs.replicate _,by rw [val_replicate];simp [val],fun k _=>?_⟩
 unfold rd
 rw [List.getD_eq_getElem?_getD,List.getElem?_replicate]
 split <;> rfl
theorem mulOut_step {n m o0 o:List Int} {i:Nat} {c:Int} (hn:Limbs n) (hm:Limbs m) (hi:i < n.length) (h0:MulOut n m i o0) (h:MulIn (rd n (i:Int)) m o0 i m.length c o) :
  MulOut n m (i + 1) (o.set (i + m.length) c):=by
 obtain ⟨a1,a2,a3,a4⟩:=h0
 obtain ⟨h1,h2,h3,h4,h5,h6⟩:=h
 have hlt:i + m.length < o.length:=by omega
 refine ⟨by rw [List.length_set];omega,h2.set _ ⟨h3,h4⟩,?_,fun k hk=>?_⟩
 ·have hs:=val_set o (i + m.length) c hlt
  have hz:rd o ((i + m.length:Nat):Int) = 0:=by rw [h6 _ (Nat.le_refl _)];exact a4 _ (Nat.le_refl _)
  rw [hz] at hs
  rw [List.take_length] at h5
  rw [val_take_succ n i hi,Nat.add_mul,← a3]
  have e:(rd n (i:Int)).toNat * 4294967296 ^ i * val m = (rd n (i:Int)).toNat * val m * 4294967296 ^ i:=by
   rw [Nat.mul_assoc,Nat.mul_assoc,Nat.mul_comm (4294967296 ^ i)]
  rw [e]
  simp at hs
  omega
 ·rw [rd_set_ne _ (by omega),h6 k (by omega)]
  exact a4 k (by omega)
theorem mulOut_end {n m o:List Int} (h:MulOut n m n.length o):trimL o = lim (val n * val m):=by
 obtain ⟨h1,h2,h3,h4⟩:=h
 rw [trimL_eq h2,h3,List.take_length]
theorem or_join (a b:Int) (ha:0 ≤ a ∧ a < 4294967296) (hb:0 ≤ b ∧ b < 4294967296):Go.bits .or .u64 (b * 4294967296) a = a + 4294967296 * b:=by
 rw [u64_or _ _ (by omega) (by omega) (by omega) (by omega),nat_join 32 _ _ (by omega) (by omega)]
 omega
theorem small64_eq {x:Int} (h0:0 ≤ x) (h1:x < 18446744073709551616):small64 x = lim x.toNat:=by
 have hl:Limbs [x % 4294967296,x / 4294967296]:=Limbs.cons (by omega) (Limbs.cons (by omega) Limbs.nil)
 unfold small64
 rw [trimL_eq hl]
 congr 1
 simp [val]
 omega
end Go.Proofs.YtijldkknhphgcaaGreat.Hand
set_option linter.unusedVariables false
set_option linter.unusedSimpArgs false
namespace Go.Proofs.YtijldkknhphgcaaGreat.Hand
open Go.RowKit Go.Proofs.YtijldkknhphgcaaGreatW.PrintWords Go.Proofs.YtijldkknhphgcaaGreatW.PrintLast Go.Proofs.YtijldkknhphgcaaGreatW.PrintMore
def smallV (l:List Int):Int:=if l.length ≤ 2 then (val l:Int) else 0
theorem small_at (A:Option Addr) (c:Nat) (l:List Int) (w:World) (hr:(Kd.int .u32).C w A l.length l) (hl:Limbs l) :
  Calls Tryz.prog 110 #[.slice A l.length c] w fun e w'=>e = .returned (.tuple #[.int .u64 (smallV l),.bool (decide (l.length ≤ 2))]) ∧ Drawn0 w w':=by
 rcases l with _ | ⟨a,_ | ⟨b,_ | ⟨d,l⟩⟩⟩
 ·go_enter Tryz.func110,Tryz.ntmps110
  go_wp2
  go_ret2
  exact ⟨by simp [smallV,val],Drawn0.refl _⟩
 ·obtain ⟨ad,rfl,hx⟩:=Kd.at_int hr 0 (by omega) (by simp)
  have ha:=hl.head
  have hrd:rd [a] 0 = a:=rfl
  rw [hrd,show ((0:Int)).toNat = 0 from rfl,Addr.add_zero'] at hx
  clear hr hrd
  go_enter Tryz.func110,Tryz.ntmps110
  go_wp2
  go_ret2
  exact ⟨by simp [smallV,val];omega,Drawn0.refl _⟩
 ·obtain ⟨ad,rfl,hx⟩:=Kd.at_int hr 0 (by omega) (by simp)
  obtain ⟨ad',h',hy⟩:=Kd.at_int hr 1 (by omega) (by simp)
  cases h'
  have ha:=hl.head
  have hb:=hl.tail.head
  have hrd:rd [a,b] 0 = a:=rfl
  have hrd1:rd [a,b] 1 = b:=rfl
  rw [hrd,show ((0:Int)).toNat = 0 from rfl,Addr.add_zero'] at hx
  rw [hrd1] at hy
  simp only [show (1:Int).toNat = 1 from rfl,Nat.reduceEqDiff,Go.Addr.add,↓reduceIte] at hy
  clear hr hrd hrd1
  go_enter Tryz.func110,Tryz.ntmps110
  go_wp2
  go_quiet (fail)
  go_wp2
  go_ret2
  have hj:=or_join a b ha hb
  have hv:smallV [a,b] = a + 4294967296 * b:=by simp [smallV,val];omega
  rw [← hj] at hv
  exact ⟨by rw [hv];rfl,(Drawn0.refl _).step _⟩
 ·have h3:((l.length + 1 + 1 + 1:Nat):Int) = l.length + 3:=by omega
  have e0:(((l.length:Int) + 3) == 0) = false:=by rw [beq_eq_false_iff_ne];omega
  have e1:(((l.length:Int) + 3) == 1) = false:=by rw [beq_eq_false_iff_ne];omega
  have e2:(((l.length:Int) + 3) == 2) = false:=by rw [beq_eq_false_iff_ne];omega
  clear hr
  go_enter Tryz.func110,Tryz.ntmps110
  go_wp2
  go_ret2
  exact ⟨by simp [smallV],Drawn0.refl _⟩
theorem val_len1 {l:List Int} (hl:Limbs l) (h:l.length ≤ 1):val l < 4294967296:=by
 have:=val_lt hl
 have h2:4294967296 ^ l.length ≤ 4294967296 ^ 1:=Nat.pow_le_pow_right (by omega) h
 omega
set_option maxHeartbeats 4000000 in
theorem mul_calls (A A':Option Addr) (c c':Nat) (l l':List Int) (w:World) (hr:(Kd.int .u32).C w A l.length l) (hc:l.length ≤ c) (hr':(Kd.int .u32).C w A' l'.length l') (hc':l'.length ≤ c')
  (hl:Limbs l) (hl':Limbs l') (hn:l.length ≤ 1099511627776) (hn':l'.length ≤ 1099511627776) :
  Calls Tryz.prog 73 #[.slice A l.length c,.slice A' l'.length c'] w fun e w'=>∃ v,e = .returned v ∧ (Kd.int .u32).R 134 w' w.heap.size (fun _=>True) v (lim (val l * val l')) ∧ Below w.heap.size w w':=by
 have HR:=Aside0.mk hr
 have HR':=Aside0.mk hr'
 have HL:=Aside0.mk hl
 have HL':=Aside0.mk hl'
 clear hr hc hr' hc' hl hl'
 by_cases hs:l.length ≤ 1 ∧ l'.length ≤ 1
 ·obtain ⟨h1,h2⟩:=hs
  have e1:decide (l.length ≤ 1) = true:=decide_eq_true h1
  have e2:decide (l'.length ≤ 1) = true:=decide_eq_true h2
  have e3:decide ((l.length:Int) ≤ 1) = true:=decide_eq_true (by omega)
  have e4:decide ((l'.length:Int) ≤ 1) = true:=decide_eq_true (by omega)
  have hv:=val_len1 HL.out h1
  have hv':=val_len1 HL'.out h2
  have hsv:smallV l = (val l:Int):=by unfold smallV;rw [if_pos (by omega)]
  have hsv':smallV l' = (val l':Int):=by unfold smallV;rw [if_pos (by omega)]
  have hp:=limb_prod (x:=(val l:Int)) (y:=(val l':Int)) ⟨by omega,by omega⟩ ⟨by omega,by omega⟩
  have hw:IntKind.u64.wrap ((val l:Int) * (val l':Int)) = (val l:Int) * (val l':Int):=by
   rw [IntKind.wrap_u64]
   exact Int.emod_eq_of_lt hp.1 (by omega)
  have HW:=Aside0.mk hw
  have HP:=Aside0.mk hp
  have HSV:=Aside0.mk hsv
  have HSV':=Aside0.mk hsv'
  clear hw hp hsv hsv' hv hv'
  go_enter Tryz.func73,Tryz.ntmps73
  go_wp2_with fail
  refine (small_at _ _ _ _ HR.out HL.out).mono ?_
  rintro e w1 ⟨rfl,hd⟩
  have HD:=Aside0.mk hd
  clear hd
  go_wp2_with fail
  refine (small_at _ _ _ _ (Kd.C_below HR'.out HD.out.below) HL'.out).mono ?_
  rintro e w2 ⟨rfl,hd⟩
  have HD2:=Aside0.mk (HD.out.below.trans ((hd.below).mono HD.out.below.size))
  clear hd
  rw [HSV.out,HSV'.out]
  go_wp2_with fail
  rw [HW.out]
  refine (small_calls _ HP.out.1 (by have:=HP.out.2;omega) w2).mono ?_
  rintro e w3 ⟨v,rfl,ho,hb⟩
  have HO:=Aside0.mk ho
  have HB:=Aside0.mk (HD2.out.trans (hb.mono HD2.out.size))
  clear ho hb
  go_wp2
  go_ret
  refine ⟨_,rfl,?_,HB.out⟩
  have:=Kd.R_lower HO.out HD2.out.size
  rw [small64_eq HP.out.1 (by have:=HP.out.2;omega),Int.toNat_mul (by omega) (by omega),Int.toNat_natCast,Int.toNat_natCast] at this
  exact this
 ·have HN:¬ (l.length ≤ 1 ∧ l'.length ≤ 1):=hs
  have hN:l.length + l'.length ≤ 2199023255552:=by omega
  have hmk:∀ W:World,(Instr.makeSlice 117 (.int .i64 ((l.length:Int) + (l'.length:Int))) (.int .i64 ((l.length:Int) + (l'.length:Int)))).run Tryz.prog W = .ok (.slice (some ⟨W.heap.size,0,none⟩) (l.length + l'.length) (l.length + l'.length)) (W.alloc (.cells (madeCells #[.int .u32 0] (l.length + l'.length)) 134)):=by
   intro W
   rw [show ((l.length:Int) + (l'.length:Int)) = ((l.length + l'.length:Nat):Int) from by omega]
   exact print_make 117 134 .u32 4 Tryz.underlying117 infoU (by omega) _ (by omega) W
  have hO:=Aside0.mk (show (Kd.int .u32).R 134 (w.alloc (.cells (madeCells #[.int .u32 0] (l.length + l'.length)) 134)) w.heap.size (fun k=>k = w.heap.size) (.slice (some ⟨w.heap.size,0,none⟩) (l.length + l'.length) (l.length + l'.length)) (List.replicate (l.length + l'.length) 0) from
   Kd.R_of_own (by rw [List.length_replicate];exact own_made w w.heap.size 134 .u32 _ (Nat.le_refl _) (by omega)) (fun k hk=>by simpa [Value.ownBlock] using hk.symm))
  have hcase:(decide (l.length ≤ 1) = true ∧ decide ((l.length:Int) ≤ 1) = true ∧ decide (l'.length ≤ 1) = false ∧ decide ((l'.length:Int) ≤ 1) = false) ∨ (decide (l.length ≤ 1) = false ∧ decide ((l.length:Int) ≤ 1) = false):=by
   by_cases h1:l.length ≤ 1
   ·exact .inl ⟨decide_eq_true h1,decide_eq_true (by omega),decide_eq_false (fun h2=>hs ⟨h1,h2⟩),decide_eq_false (fun h2=>hs ⟨h1,by omega⟩)⟩
   ·exact .inr ⟨decide_eq_false h1,decide_eq_false (by omega)⟩
  clear hs HN
  rcases hcase with ⟨e1,e2,e3,e4⟩ | ⟨e1,e2⟩
  all_goals
   go_enter Tryz.func73,Tryz.ntmps73
   go_wp2
   go_loopg [45] l.length (fun k v45 w'=>∃ i:Nat,v45 = .int .i64 (i:Int) ∧ Aside0 (i + k = l.length) ∧ ∃ o:List Int,Aside0 (MulOut l l' i o) ∧ Aside0 ((Kd.int .u32).R 134 w' w.heap.size (fun k=>k = w.heap.size) (.slice (some ⟨w.heap.size,0,none⟩) (l.length + l'.length) (l.length + l'.length)) o) ∧ Aside0 (Blk w' (w.heap.size + 1) 117 #[.slice (some ⟨w.heap.size,0,none⟩) (l.length + l'.length) (l.length + l'.length)]) ∧ Aside0 (Below w.heap.size w w'))
   case atStart =>
    have hbx:=Blk.new (w.alloc (.cells (madeCells #[.int .u32 0] (l.length + l'.length)) 134)) 117 #[.slice (some ⟨w.heap.size,0,none⟩) (l.length + l'.length) (l.length + l'.length)]
    rw [show (w.alloc (.cells (madeCells #[.int .u32 0] (l.length + l'.length)) 134)).heap.size = w.heap.size + 1 from by simp] at hbx
    exact ⟨0,rfl,⟨by omega⟩,_,⟨mulOut_start l l'⟩,⟨Kd.R_alloc hO.out _⟩,⟨hbx⟩,⟨below_alloc (below_alloc (Below.refl _ _) _) _⟩⟩
   case round =>
    clear hO
    obtain ⟨i,rfl,HI,o0,HM0,HO,HX,HB⟩:=hrel
    obtain ⟨gk_1,hgk⟩:∃ g1,g1 = gk:=⟨_,rfl⟩
    subst hgk
    by_cases hlt:i < l.length
    ·have hx0:=limbs_rd HL.out (i:Int)
     obtain ⟨x,hx⟩:∃ x,x = rd l (i:Int):=⟨_,rfl⟩
     rw [← hx] at hx0
     obtain ⟨ad,eA,hcx⟩:=Kd.at_int HR.out (i:Int) (by omega) (by omega)
     subst eA
     rw [Int.toNat_natCast,← hx] at hcx
     replace hcx:=(HB.out.cell (World.block_lt_of_cell? w _ hcx)).trans hcx
     have HXE:=Aside0.mk hx
     clear hx
     have hil:(i:Int) < (l.length:Int):=by omega
     go_wp2
     go_loopg [12,52] l'.length (fun k v12 v52 w'=>∃ (cy:Int) (j:Nat),v12 = .int .u64 cy ∧ v52 = .int .i64 (j:Int) ∧ Aside0 (j + k = l'.length) ∧ ∃ o:List Int,Aside0 (MulIn x l' o0 i j cy o) ∧ Aside0 ((Kd.int .u32).R 134 w' w.heap.size (fun k=>k = w.heap.size) (.slice (some ⟨w.heap.size,0,none⟩) (l.length + l'.length) (l.length + l'.length)) o) ∧ Aside0 (Blk w' (w.heap.size + 1) 117 #[.slice (some ⟨w.heap.size,0,none⟩) (l.length + l'.length) (l.length + l'.length)]) ∧ Aside0 (Below w.heap.size w w'))
     case atStart=>exact ⟨0,0,rfl,rfl,⟨by omega⟩,_,⟨mulIn_start HM0.out.2.1⟩,HO,HX,HB⟩
     case round =>
      clear HO HX HB hcx
      obtain ⟨cy,j,rfl,rfl,HJ,o,HM,HO,HX,HB⟩:=hrel
      have hbox:=HX.out.cell 0
      by_cases hjt:j < l'.length
      ·have hy0:=limbs_rd HL'.out (j:Int)
       obtain ⟨ad',eA',hcy⟩:=Kd.at_int HR'.out (j:Int) (by omega) (by omega)
       subst eA'
       rw [Int.toNat_natCast] at hcy
       replace hcy:=(HB.out.cell (World.block_lt_of_cell? w _ hcy)).trans hcy
       have hlen:=HM.out.1
       have hlen0:=HM0.out.1
       have hz0:=limbs_rd HM.out.2.1 ((i:Int) + (j:Int))
       obtain ⟨hcz,hfz⟩:=Kd.R_celln 0 HO.out ((i:Int) + (j:Int)) (by omega) (by omega)
       rw [show ((i:Int) + (j:Int)).toNat = i + j from by omega] at hcz hfz
       have hc0:=HM.out.2.2.1
       have hc1:=HM.out.2.2.2.1
       have hpb:=limb_prod hx0 hy0
       obtain ⟨y,hy⟩:∃ y,y = rd l' (j:Int):=⟨_,rfl⟩
       obtain ⟨z,hz⟩:∃ z,z = rd o ((i:Int) + (j:Int)):=⟨_,rfl⟩
       rw [show rdOf 0 o ((i:Int) + (j:Int)) = rd o ((i:Int) + (j:Int)) from rfl,← hz] at hcz
       rw [← hz] at hz0
       rw [← hy] at hcy hy0 hpb
       obtain ⟨p,hp⟩:∃ p,p = x * y:=⟨_,rfl⟩
       have hw:IntKind.u64.wrap (x * y) = p:=by
        rw [IntKind.wrap_u64,hp]
        exact Int.emod_eq_of_lt hpb.1 (by omega)
       rw [← hp] at hpb
       have HY:=Aside0.mk hy
       have HZ:=Aside0.mk hz
       have HP:=Aside0.mk hp
       have HLN:=Aside0.mk hlen
       have HLN0:=Aside0.mk hlen0
       clear hy hz hp hlen hlen0
       have hjl:(j:Int) < (l'.length:Int):=by omega
       have hij:(i:Int) + (j:Int) < (l.length:Int) + (l'.length:Int):=by omega
       have hne:¬ (w.heap.size + 1 = w.heap.size):=by omega
       go_wp2
       go_roundg (gk - 1)
       case measure=>have:=HJ.out;omega
       case rel =>
        have hstep:=mulIn_step (t:=cy + (p + z)) hx0 HL'.out HM.out hjt (by rw [HLN.out,HLN0.out];omega) (by rw [HP.out,HZ.out,HY.out];rfl)
        have hput:=Kd.R_putg HO.out ((i:Int) + (j:Int)) ((cy + (p + z)) % 4294967296)
        rw [show ((i:Int) + (j:Int)).toNat = i + j from by omega] at hput
        exact ⟨_,j + 1,rfl,by go_num,⟨by have:=HJ.out;omega⟩,_,⟨hstep⟩,⟨hput.1⟩,⟨HX.out.far (by simp) _⟩,⟨below_set HB.out (Nat.le_refl _)⟩⟩
      ·have hje:j = l'.length:=by have:=HJ.out;omega
       subst hje
       have hc0:=HM.out.2.2.1
       have hc1:=HM.out.2.2.2.1
       obtain ⟨hcz,hfz⟩:=Kd.R_celln 0 HO.out ((i:Int) + (l'.length:Int)) (by omega) (by omega)
       rw [show ((i:Int) + (l'.length:Int)).toNat = i + l'.length from by omega] at hcz hfz
       have hij:(i:Int) + (l'.length:Int) < (l.length:Int) + (l'.length:Int):=by omega
       go_wp2
       go_roundg (gk_1 - 1)
       case measure=>have:=HI.out;omega
       case rel =>
        have hput:=Kd.R_putg HO.out ((i:Int) + (l'.length:Int)) cy
        rw [show ((i:Int) + (l'.length:Int)).toNat = i + l'.length from by omega] at hput
        have hm:=HM.out
        rw [HXE.out] at hm
        have hstep:=mulOut_step HL.out HL'.out hlt HM0.out hm
        exact ⟨i + 1,by go_num,⟨by have:=HI.out;omega⟩,_,⟨hstep⟩,⟨hput.1⟩,⟨HX.out.far (by simp) _⟩,⟨below_set HB.out (Nat.le_refl _)⟩⟩
    ·have hie:i = l.length:=by have:=HI.out;omega
     subst hie
     go_wp2_with fail
     refine (trim_calls (w.heap.size + 1) (some ⟨w.heap.size,0,none⟩) (l.length + l'.length) o0 _ (by rw [HM0.out.1];exact HX.out) ((Kd.R_reads' HO.out).2.2) (by rw [HM0.out.1];exact Nat.le_refl _)).mono ?_
     rintro e w' ⟨rfl,hg,hb⟩
     have hRt:=Kd.R_take (m:=trimN o0) (Kd.R_grown HO.out hg (by rintro k rfl h;injection h with h;omega)) (trimN_le _)
     have he:o0.take (trimN o0) = lim (val l * val l'):=mulOut_end HM0.out
     rw [he] at hRt
     have HRT:=Aside0.mk hRt
     have HBB:=Aside0.mk (pw_below_grown HB.out _ HB.out.size hg (by intro k hk;injection hk with hk;omega))
     clear hRt he hg hb
     go_wp2
     go_ret
     exact ⟨_,rfl,Kd.R_mono HRT.out (fun _ _=>trivial),HBB.out⟩
end Go.Proofs.YtijldkknhphgcaaGreat.Hand
set_option linter.unusedVariables false
set_option linter.unusedSimpArgs false
namespace Go.Proofs.YtijldkknhphgcaaGreat.Hand
open Go.RowKit Go.Proofs.YtijldkknhphgcaaGreatW.PrintWords Go.Proofs.YtijldkknhphgcaaGreatW.PrintLast Go.Proofs.YtijldkknhphgcaaGreatW.PrintMore
theorem C_take {w:World} {A:Option Addr} {l:List Int} (h:(Kd.int .u32).C w A l.length l) (n:Nat) (hn:n ≤ l.length):(Kd.int .u32).C w A (l.take n).length (l.take n):=by
 have h1:=(ReadsInt.take_ (w:=w) (k:=.u32) (Kd.reads_of_C (d:=0) h) n hn)
 rw [show (l.take n).length = n from by rw [List.length_take];omega]
 exact Kd.C_of_reads h1
def limbsB (l:List Int):Bool:=l.all fun x=>decide (0 ≤ x ∧ x < 4294967296)
theorem limbsB_iff {l:List Int}:limbsB l = true ↔ Limbs l:=by
 unfold limbsB Limbs
 rw [List.all_eq_true]
 exact ⟨fun h x hx=>of_decide_eq_true (h x hx),fun h x hx=>decide_eq_true (h x hx)⟩
def natB (l:List Int):Bool:=limbsB l && decide (l.length ≤ 1099511627776)
end Go.Proofs.YtijldkknhphgcaaGreat.Hand
namespace Go.Proofs.YtijldkknhphgcaaGreat.Ext
open Go.RowKit Go.Proofs.YtijldkknhphgcaaGreatW.PrintWords Go.Proofs.YtijldkknhphgcaaGreatW.PrintLast Go.Proofs.YtijldkknhphgcaaGreatW.PrintMore Go.Proofs.YtijldkknhphgcaaGreat.Hand
def impl_NatMul.f (l0 l1:List Int):Option (List Int):=if natB l0 && natB l1 then some (lim (val l0 * val l1)) else none
end Go.Proofs.YtijldkknhphgcaaGreat.Ext
set_option linter.unusedVariables false
set_option linter.unusedSimpArgs false
namespace Go.Proofs.YtijldkknhphgcaaGreat.Hand
open Go.RowKit Go.Proofs.YtijldkknhphgcaaGreatW.PrintWords Go.Proofs.YtijldkknhphgcaaGreatW.PrintLast Go.Proofs.YtijldkknhphgcaaGreatW.PrintMore
theorem quiet_add_same {P:Program} {f:FuncId} {args:Array Value} {w:World} {a n:Nat} {v:Value}
  (h:Calls P f args (w.drewN (a + n)) fun e w'=>e = .returned v ∧ w' = w.drewN (a + n)) :
  Calls P f args (w.drewN (a + n)) fun e w''=>e = .returned v ∧ ∃ m,w'' = w.drewN (a + m) :=
 h.mono fun _ _ ⟨he,hm⟩=>⟨he,n,hm⟩
def cmpI (a b:Int):Int:=if a < b then -1 else if a = b then 0 else 1
def cmpN (a b:Nat):Int:=if a < b then -1 else if a = b then 0 else 1
theorem cmpI_lt {a b:Int} (h:a < b):cmpI a b = -1:=by unfold cmpI;rw [if_pos h]
theorem cmpI_gt {a b:Int} (h:b < a):cmpI a b = 1:=by unfold cmpI;rw [if_neg (by omega),if_neg (by omega)]
theorem cmpN_lt {a b:Nat} (h:a < b):cmpN a b = -1:=by unfold cmpN;rw [if_pos h]
theorem cmpN_gt {a b:Nat} (h:b < a):cmpN a b = 1:=by unfold cmpN;rw [if_neg (by omega),if_neg (by omega)]
theorem cmpN_eq {a b:Nat} (h:a = b):cmpN a b = 0:=by unfold cmpN;rw [if_neg (by omega),if_pos h]
theorem pow_le_val {l:List Int} (hl:Limbs l) (hp:Plain l) (hne:l ≠ []):4294967296 ^ (l.length - 1) ≤ val l:=by
 induction l with
 | nil=>exact absurd rfl hne
 | cons x xs ih =>
  rcases xs with _ | ⟨y,ys⟩
  ·have:=val_pos_of_plain hl hp hne
   have:1 ≤ val [x]:=this
   simpa using this
  ·have:=ih hl.tail hp.tail (by simp)
   rw [val,List.length_cons,List.length_cons]
   rw [List.length_cons] at this
   have e:ys.length + 1 + 1 - 1 = (ys.length + 1 - 1) + 1:=by omega
   rw [e,Nat.pow_succ]
   omega
theorem val_lt_of_length {l l':List Int} (hl:Limbs l) (hl':Limbs l') (hp':Plain l') (h:l.length < l'.length):val l < val l':=by
 have h1:=val_lt hl
 have h2:=pow_le_val hl' hp' (by intro e;subst e;simp at h)
 have h3:4294967296 ^ l.length ≤ 4294967296 ^ (l'.length - 1):=Nat.pow_le_pow_right (by omega) (by omega)
 omega
theorem val_lt_of_top {l l':List Int} {i:Nat} (hl:Limbs l) (hl':Limbs l') (hi:i < l.length) (he:l.length = l'.length) (hd:l.drop (i + 1) = l'.drop (i + 1)) (h:rd l (i:Int) < rd l' (i:Int)):val l < val l':=by
 have a1:=val_split l (i + 1) hi
 have a2:=val_split l' (i + 1) (by omega)
 have b1:=val_take_succ l i hi
 have b2:=val_take_succ l' i (by omega)
 have c1:=val_lt (hl.take i)
 have r1:=limbs_rd hl (i:Int)
 have r2:=limbs_rd hl' (i:Int)
 rw [List.length_take,Nat.min_eq_left (by omega)] at c1
 rw [hd] at a1
 have d1:((rd l (i:Int)).toNat + 1) * 4294967296 ^ i ≤ (rd l' (i:Int)).toNat * 4294967296 ^ i:=Nat.mul_le_mul_right _ (by omega)
 rw [Nat.add_mul] at d1
 omega
theorem cmpInt_calls (a b:Int) (w:World) :
  Calls Tryz.prog 72 #[.int .i64 a,.int .i64 b] w fun e w'=>e = .returned (.int .i64 (cmpI a b)) ∧ w = w':=by
 have hn:∀ (x:Int) (W:World),Calls Tryz.prog 109 #[.int .i64 x] W fun e w'=>e = .returned (.bool false) ∧ W = w':=by
  intro x W
  go_enter Tryz.func109,Tryz.ntmps109
  go_wp2
  go_ret
  exact ⟨rfl,rfl⟩
 have H:=Lib.hid hn
 clear hn
 go_enter Tryz.func72,Tryz.ntmps72
 go_wp2_with fail
 refine (H.out _ _).mono ?_
 rintro e w1 ⟨rfl,rfl⟩
 go_wp2_with fail
 refine (H.out _ _).mono ?_
 rintro e w1 ⟨rfl,rfl⟩
 by_cases h1:a < b
 ·go_wp2
  go_ret
  exact ⟨by rw [cmpI_lt h1];rfl,rfl⟩
 ·by_cases h2:b < a
  ·go_wp2
   go_ret
   exact ⟨by rw [cmpI_gt h2];rfl,rfl⟩
  ·go_wp2
   go_ret
   have:cmpI a b = 0:=by unfold cmpI;rw [if_neg (by omega),if_pos (by omega)]
   exact ⟨by rw [this];rfl,rfl⟩
theorem cmpU32_calls (a b:Int) (w:World) :
  Calls Tryz.prog 113 #[.int .u32 a,.int .u32 b] w fun e w'=>e = .returned (.int .i64 (cmpI a b)) ∧ w = w':=by
 have hn:∀ (x:Int) (W:World),Calls Tryz.prog 137 #[.int .u32 x] W fun e w'=>e = .returned (.bool false) ∧ W = w':=by
  intro x W
  go_enter Tryz.func137,Tryz.ntmps137
  go_wp2
  go_ret
  exact ⟨rfl,rfl⟩
 have H:=Lib.hid hn
 clear hn
 go_enter Tryz.func113,Tryz.ntmps113
 go_wp2_with fail
 refine (H.out _ _).mono ?_
 rintro e w1 ⟨rfl,rfl⟩
 go_wp2_with fail
 refine (H.out _ _).mono ?_
 rintro e w1 ⟨rfl,rfl⟩
 by_cases h1:a < b
 ·go_wp2
  go_ret
  exact ⟨by rw [cmpI_lt h1];rfl,rfl⟩
 ·by_cases h2:b < a
  ·go_wp2
   go_ret
   exact ⟨by rw [cmpI_gt h2];rfl,rfl⟩
  ·go_wp2
   go_ret
   have:cmpI a b = 0:=by unfold cmpI;rw [if_neg (by omega),if_pos (by omega)]
   exact ⟨by rw [this];rfl,rfl⟩
set_option maxHeartbeats 2000000 in
theorem cmp_calls (A A':Option Addr) (c c':Nat) (l l':List Int) (w:World) (hr:(Kd.int .u32).C w A l.length l) (hr':(Kd.int .u32).C w A' l'.length l') (hl:Limbs l) (hl':Limbs l') (hp:Plain l) (hp':Plain l') :
  Calls Tryz.prog 74 #[.slice A l.length c,.slice A' l'.length c'] w fun e w'=>e = .returned (.int .i64 (cmpN (val l) (val l'))) ∧ Drawn0 w w':=by
 have HR:=Aside0.mk hr
 have HR':=Aside0.mk hr'
 have HL:=Aside0.mk hl
 have HL':=Aside0.mk hl'
 have hlen:l.length ≤ 9223372036854775807:=hr.2.1
 clear hr hr' hl hl'
 by_cases hne:l.length = l'.length
 ·have HE:=Aside0.mk hne
  have hb1:(l.length != l'.length) = false:=by simp [hne]
  have hb2:((l.length:Int) != (l'.length:Int)) = false:=by simp [hne]
  clear hne hp hp'
  go_enter Tryz.func74,Tryz.ntmps74
  go_wp2
  go_loopg [5] l.length (fun k v5 w'=>v5 = .int .i64 ((k:Int) - 1) ∧ Aside0 (k ≤ l.length) ∧ Aside0 (l.drop k = l'.drop k) ∧ Aside0 (Drawn0 w w'))
  case atStart=>exact ⟨rfl,⟨Nat.le_refl _⟩,⟨by rw [List.drop_length,HE.out,List.drop_length]⟩,⟨Drawn0.refl _⟩⟩
  case round =>
   obtain ⟨rfl,HK,HD,HW⟩:=hrel
   cases gk with
   | zero =>
    go_wp2
    go_ret
    have hd:=HD.out
    rw [List.drop_zero,List.drop_zero] at hd
    exact ⟨by rw [cmpN_eq (by rw [hd])];rfl,HW.out⟩
   | succ k1 =>
    have hk:=HK.out
    rw [show ((k1 + 1:Nat):Int) - 1 = (k1:Int) from by omega]
    obtain ⟨ad,e1,hx⟩:=Kd.at_int HR.out (k1:Int) (by omega) (by omega)
    subst e1
    obtain ⟨ad',e2,hy⟩:=Kd.at_int HR'.out (k1:Int) (by omega) (by have:=HE.out;omega)
    subst e2
    rw [Int.toNat_natCast] at hx hy
    replace hx:=(HW.out.below.cell (World.block_lt_of_cell? w _ hx)).trans hx
    replace hy:=(HW.out.below.cell (World.block_lt_of_cell? w _ hy)).trans hy
    have q1:(k1:Int) < (l.length:Int):=by omega
    have q2:(k1:Int) < (l'.length:Int):=by have:=HE.out;omega
    by_cases hxy:rd l (k1:Int) = rd l' (k1:Int)
    ·have hb3:(rd l (k1:Int) != rd l' (k1:Int)) = false:=by rw [bne_eq_false_iff_eq];exact hxy
     have HXY:=Aside0.mk hxy
     clear hxy
     go_wp2
     go_quiet (fail)
     go_wp2
     go_roundg k1
     case measure=>omega
     case rel =>
      refine ⟨by go_num,⟨by omega⟩,⟨?_⟩,⟨HW.out.step _⟩⟩
      have h1:k1 < l.length:=by omega
      have h2:k1 < l'.length:=by have:=HE.out;omega
      rw [List.drop_eq_getElem_cons h1,List.drop_eq_getElem_cons h2,HD.out,← rd_lt h1,← rd_lt h2,HXY.out]
    ·have hb3:(rd l (k1:Int) != rd l' (k1:Int)) = true:=by rw [bne_iff_ne];exact hxy
     have HXY:=Aside0.mk hxy
     clear hxy
     go_wp2
     go_quiet (fail)
     go_wp2
     go_quiet ((go_at_call 113;exact quiet_add_same ((cmpU32_calls _ _ _).mono fun _ _ h=>⟨h.1,h.2.symm⟩)))
     go_wp2
     go_ret
     have he:cmpI (rd l (k1:Int)) (rd l' (k1:Int)) = cmpN (val l) (val l'):=by
      rcases Int.lt_or_gt_of_ne HXY.out with h | h
      ·rw [cmpI_lt h,cmpN_lt (val_lt_of_top HL.out HL'.out (by omega) HE.out HD.out h)]
      ·rw [cmpI_gt h,cmpN_gt (val_lt_of_top HL'.out HL.out (by have:=HE.out;omega) HE.out.symm HD.out.symm h)]
     rw [← he]
     exact ⟨rfl,(HW.out.step _).step _⟩
 ·have hb1:(l.length != l'.length) = true:=by simpa using hne
  have hb2:((l.length:Int) != (l'.length:Int)) = true:=by rw [bne_iff_ne];omega
  have he:cmpI (l.length:Int) (l'.length:Int) = cmpN (val l) (val l'):=by
   rcases Nat.lt_or_gt_of_ne hne with h | h
   ·rw [cmpI_lt (by omega),cmpN_lt (val_lt_of_length HL.out HL'.out hp' h)]
   ·rw [cmpI_gt (by omega),cmpN_gt (val_lt_of_length HL'.out HL.out hp h)]
  have HE:=Aside0.mk he
  clear he hne hp hp'
  go_enter Tryz.func74,Tryz.ntmps74
  go_wp2_with fail
  refine (cmpInt_calls _ _ _).mono ?_
  rintro e w1 ⟨rfl,rfl⟩
  rw [HE.out]
  go_wp2
  go_ret
  exact ⟨rfl,Drawn0.refl _⟩
theorem copy_calls (A:Option Addr) (c:Nat) (l:List Int) (w:World) (hr:(Kd.int .u32).C w A l.length l) (hn:l.length ≤ 8796093022208) :
  Calls Tryz.prog 117 #[.slice A l.length c] w fun e w'=>∃ v,e = .returned v ∧ (Kd.int .u32).R 134 w' w.heap.size (fun _=>True) v l ∧ Below w.heap.size w w':=by
 have HR:=Aside0.mk hr
 clear hr
 have hO:=Aside0.mk (show (Kd.int .u32).R 134 (w.alloc (.cells #[] 134)) w.heap.size (fun _=>True) (.slice (some ⟨w.heap.size,0,none⟩) 0 0) [] from
  Kd.R_of_own (own_lit w w.heap.size 134 .u32 [] (Nat.le_refl _) (by simp)) (fun k hk=>trivial))
 go_enter Tryz.func117,Tryz.ntmps117
 go_wp2_with ((at_builtin;refine Kd.R_append_rows (Kd.int .u32) (w0:=w) w.heap.size rfl (.tmp 3) (.tmp 4) 117 134 (.int .u32 0) 4 rfl Tryz.underlying117 infoU rfl (by decide) (by omega) _ [] l A l.length c (fun _=>True) (fun _=>False) rfl rfl hO.out (Kd.C_below HR.out (below_alloc (Below.refl _ _) _)) (fun _ _ h=>h) (fun _ h=>h.elim) (fun _ _=>trivial) (below_alloc (Below.refl _ _) _) (by simp) (by simp;omega) ?_;intro v1 w1 ho hb hg hat;have HO:=Aside0.mk ho;have HB:=Aside0.mk hb;clear ho hb hg hat))
 go_ret
 exact ⟨_,rfl,HO.out,HB.out⟩
end Go.Proofs.YtijldkknhphgcaaGreat.Hand
set_option linter.unusedVariables false
set_option linter.unusedSimpArgs false
namespace Go.Proofs.YtijldkknhphgcaaGreat.Hand
open Go.RowKit Go.Proofs.YtijldkknhphgcaaGreatW.PrintWords Go.Proofs.YtijldkknhphgcaaGreatW.PrintLast Go.Proofs.YtijldkknhphgcaaGreatW.PrintMore
def ShrinkIn (d:Int) (l:List Int) (k:Nat) (r:Int) (o:List Int):Prop :=
 o.length = l.length ∧ Limbs o ∧ (∀ j:Nat,j < k → rd o (j:Int) = rd l (j:Int)) ∧ 0 ≤ r ∧ r < d ∧ val (l.drop k) = d.toNat * val (o.drop k) + r.toNat
theorem shrinkIn_start {d:Int} {l:List Int} (hd:0 < d) (hl:Limbs l):ShrinkIn d l l.length 0 l :=
 ⟨rfl,hl,fun _ _=>rfl,by omega,hd,by rw [List.drop_length];simp [val]⟩
theorem drop_set_self (o:List Int) (k:Nat) (x:Int) (h:k < o.length):(o.set k x).drop k = x :: o.drop (k + 1):=by
 rw [List.drop_eq_getElem_cons (by rw [List.length_set];exact h),List.getElem_set_self,List.drop_set_of_lt (by omega)]
theorem shrinkIn_step {d r t q:Int} {l o:List Int} {k:Nat} (hd:0 < d ∧ d < 4294967296) (hl:Limbs l) (hk:k < l.length) (h:ShrinkIn d l (k + 1) r o) (ht:t = rd o (k:Int) + 4294967296 * r) (hq:q = t / d) :
  0 ≤ q ∧ q < 4294967296 ∧ ShrinkIn d l k (t % d) (o.set k q):=by
 obtain ⟨h1,h2,h3,h4,h5,h6⟩:=h
 have hx:=limbs_rd hl (k:Int)
 have he:=h3 k (by omega)
 rw [he] at ht
 have ht0:0 ≤ t:=by omega
 have hq0:0 ≤ q:=by rw [hq];exact Int.ediv_nonneg ht0 (by omega)
 have hq1:q < 4294967296:=by
  rw [hq]
  apply Int.ediv_lt_of_lt_mul hd.1
  omega
 refine ⟨hq0,hq1,by rw [List.length_set];exact h1,h2.set _ ⟨hq0,hq1⟩,fun j hj=>?_,Int.emod_nonneg _ (by omega),Int.emod_lt_of_pos _ hd.1,?_⟩
 ·rw [rd_set_ne _ (by omega)]
  exact h3 j (by omega)
 ·rw [drop_set_self _ _ _ (by omega),val,val_drop l k hk,h6]
  have e1:t.toNat = d.toNat * q.toNat + (t % d).toNat:=by
   have h7:=Int.mul_ediv_add_emod t d
   have h8:=Int.emod_nonneg t (show d ≠ 0 by omega)
   have h9:(d * q).toNat = d.toNat * q.toNat:=Int.toNat_mul (by omega) hq0
   have h10:=Int.mul_nonneg (show 0 ≤ d by omega) hq0
   rw [← h9]
   rw [← hq] at h7
   omega
  have e2:t.toNat = (rd l (k:Int)).toNat + 4294967296 * r.toNat:=by omega
  generalize (rd l (k:Int)).toNat = x at *
  generalize (t % d).toNat = m at *
  generalize d.toNat = dn at *
  generalize q.toNat = qn at *
  generalize val (o.drop (k + 1)) = Q at *
  rw [Nat.mul_add,Nat.mul_add,Nat.mul_left_comm dn]
  omega
theorem shrinkIn_end {d r:Int} {l o:List Int} (hd:0 < d) (h:ShrinkIn d l 0 r o):trimL o = lim (val l / d.toNat) ∧ r = ((val l % d.toNat:Nat):Int):=by
 obtain ⟨h1,h2,h3,h4,h5,h6⟩:=h
 rw [List.drop_zero,List.drop_zero] at h6
 have hr:r.toNat < d.toNat:=by omega
 rw [trimL_eq h2]
 have e:val l / d.toNat = val o:=by
  rw [h6,Nat.mul_add_div (by omega),Nat.div_eq_of_lt hr,Nat.add_zero]
 have e2:val l % d.toNat = r.toNat:=by
  rw [h6,Nat.mul_add_mod,Nat.mod_eq_of_lt hr]
 rw [e,e2]
 exact ⟨rfl,by omega⟩
theorem size_setCell (w:World) (p:Addr) (u:Value):(w.setCell p u).heap.size = w.heap.size:=by simp [World.setCell]
set_option maxHeartbeats 2000000 in
theorem shrink_calls (g base:Nat) (v:Value) (l:List Int) (d:Int) (w0 w:World) (hb:Blk w g 117 #[v]) (hr:(Kd.int .u32).R 134 w base (fun k=>k ≠ g) v l) (hB:Below base w0 w) (hbs:base ≤ w.heap.size) (hg:base ≤ g) (hd:0 < d ∧ d < 4294967296) (hl:Limbs l) :
  Calls Tryz.prog 163 #[.pointer (some ⟨g,0,none⟩),.int .u32 d] w fun e w'=>∃ v',e = .returned (.int .u32 ((val l % d.toNat:Nat):Int)) ∧ Blk w' g 117 #[v'] ∧ (Kd.int .u32).R 134 w' base (fun k=>k ≠ g) v' (lim (val l / d.toNat)) ∧ Below base w0 w':=by
 obtain ⟨A,c,rfl⟩:=Kd.R_slice hr
 have hlen:l.length ≤ 9223372036854775807:=(Kd.R_reads' hr).2.2.2.1
 have hlc:l.length ≤ c:=(Kd.R_reads' hr).2.1
 have HLC:=Aside0.mk hlc
 have HR:=Aside0.mk hr
 have HBk:=Aside0.mk hb
 have HB:=Aside0.mk hB
 have HL:=Aside0.mk hl
 have hcell:=HBk.out.cell 0
 have hz:(d == 0) = false:=by rw [beq_eq_false_iff_ne];omega
 have hd1:=hd.1
 have hd2:=hd.2
 have HD:=Aside0.mk hd
 clear hr hb hB hl hd hlc
 go_enter Tryz.func163,Tryz.ntmps163
 go_wp2
 go_loopg [5,6] l.length (fun k v5 v6 w'=>∃ (r:Int) (o:List Int),v5 = .int .u64 r ∧ v6 = .int .i64 ((k:Int) - 1) ∧ Aside0 (k ≤ l.length) ∧ Aside0 (ShrinkIn d l k r o) ∧ Aside0 (Blk w' g 117 #[.slice A l.length c]) ∧ Aside0 ((Kd.int .u32).R 134 w' base (fun k=>k ≠ g) (.slice A l.length c) o) ∧ Aside0 (Below base w0 w') ∧ Aside0 (base ≤ w'.heap.size))
 case atStart=>exact ⟨0,l,rfl,rfl,⟨Nat.le_refl _⟩,⟨shrinkIn_start HD.out.1 HL.out⟩,HBk,HR,HB,⟨hbs⟩⟩
 case round =>
  clear HR HB HBk hcell hbs
  obtain ⟨r,o,rfl,rfl,HK,HM,HBk,HR,HB,HBS⟩:=hrel
  have hcell:=HBk.out.cell 0
  have hol:=HM.out.1
  have HOL:=Aside0.mk hol
  clear hol
  cases gk with
  | zero =>
   go_wp2_with fail
   have hend:=shrinkIn_end HD.out.1 HM.out
   refine (trim_calls g A c o _ (by rw [HOL.out];exact HBk.out) (Kd.R_reads' HR.out).2.2 (by rw [HOL.out];exact HLC.out)).mono ?_
   rintro e w' ⟨rfl,hg',hb'⟩
   have hRt:=Kd.R_take (m:=trimN o) (Kd.R_grown HR.out hg' (by rintro k hk h;injection h with h;exact hk h)) (trimN_le _)
   have he:o.take (trimN o) = lim (val l / d.toNat):=hend.1
   rw [he] at hRt
   have HRT:=Aside0.mk hRt
   have HBB:=Aside0.mk (HB.out.grown hg' HBS.out (by intro k hk;injection hk with hk;omega))
   have HBL:=Aside0.mk hb'
   have hr0:=HM.out.2.2.2.1
   have hr1:=HM.out.2.2.2.2.1
   have HRR:=Aside0.mk hend.2
   clear hRt he hg' hb' hend
   go_wp2
   go_ret
   exact ⟨_,by rw [← HRR.out];rfl,HBL.out,HRT.out,HBB.out⟩
  | succ k1 =>
   have hk:=HK.out
   rw [show ((k1 + 1:Nat):Int) - 1 = (k1:Int) from by omega]
   obtain ⟨gb,cap,hv,hgb,hgl,hcl⟩:=Kd.R_form HR.out (by rw [HOL.out];omega)
   injection hv with hA _ _
   subst hA
   obtain ⟨hx,hfx⟩:=Kd.R_celln 0 HR.out (k1:Int) (by omega) (by omega)
   rw [Int.toNat_natCast,show rdOf 0 o (k1:Int) = rd o (k1:Int) from rfl] at hx
   rw [Int.toNat_natCast] at hfx
   have hgne:gb ≠ g:=HR.out.1 gb rfl
   have q1:(k1:Int) < (l.length:Int):=by omega
   have hr0:=HM.out.2.2.2.1
   have hr1:=HM.out.2.2.2.2.1
   have hxb:=limbs_rd HM.out.2.1 (k1:Int)
   obtain ⟨x,hxe⟩:∃ x,x = rd o (k1:Int):=⟨_,rfl⟩
   rw [← hxe] at hx hxb
   obtain ⟨t,ht⟩:∃ t,t = x + 4294967296 * r:=⟨_,rfl⟩
   have hor:Go.bits .or .u64 (r * 4294967296) x = t:=by rw [ht];exact or_join x r hxb ⟨hr0,by omega⟩
   have ht0:0 ≤ t ∧ t ≤ 18446744073709551615:=by omega
   obtain ⟨q,hq⟩:∃ q,q = t / d:=⟨_,rfl⟩
   have hstep:=shrinkIn_step (q:=q) (t:=t) HD.out HL.out (by omega) HM.out (by rw [ht,hxe]) hq
   have hq0:=hstep.1
   have hq1:=hstep.2.1
   have hm0:=hstep.2.2.2.2.2.1
   have hm1:=hstep.2.2.2.2.2.2.1
   have HST:=Aside0.mk hstep.2.2
   have hqq:t / d = q:=hq.symm
   have HX:=Aside0.mk hxe
   have HT:=Aside0.mk ht
   have HP:=Aside0.mk (Kd.R_putg HR.out (k1:Int) q)
   clear hxe ht hq hstep
   go_wp2
   go_region
   all_goals
    go_wp2
    go_roundg k1
    case measure=>omega
    case rel =>
     have hp:=HP.out
     rw [Int.toNat_natCast] at hp
     exact ⟨_,_,rfl,by go_num,⟨by omega⟩,HST,⟨(HBk.out.far (fun e=>hgne e.symm) _).drew⟩,⟨Kd.R_drew hp.1⟩,⟨below_drew (HB.out.setCell hgb _)⟩,⟨by show base ≤ (wr.setCell _ _).heap.size;rw [size_setCell];exact HBS.out⟩⟩
end Go.Proofs.YtijldkknhphgcaaGreat.Hand
set_option linter.unusedVariables false
set_option linter.unusedSimpArgs false
namespace Go.Proofs.YtijldkknhphgcaaGreat.Hand
open Go.RowKit Go.Proofs.YtijldkknhphgcaaGreatW.PrintWords Go.Proofs.YtijldkknhphgcaaGreatW.PrintLast Go.Proofs.YtijldkknhphgcaaGreatW.PrintMore
def LeftIn (p:Nat) (l:List Int) (i:Nat) (o:List Int):Prop :=
 o.length = l.length + 1 ∧ Limbs o ∧ val o = val (l.take i) * p ∧ rd o (i:Int) < (p:Int) ∧ ∀ j:Nat,i < j → rd o (j:Int) = 0
theorem leftIn_start (p:Nat) (hp:0 < p) (l:List Int):LeftIn p l 0 (List.replicate (l.length + 1) 0):=by
 have hz:∀ j:Nat,rd (List.replicate (l.length + 1) 0) (j:Int) = 0:=fun j=>by
  unfold rd
  rw [List.getD_eq_getElem?_getD,List.getElem?_replicate]
  split <;> rfl
 exact ⟨by simp,Limbs.replicate _,by rw [val_replicate];simp [val],by rw [hz];omega,fun j _=>hz j⟩
theorem or32_join (k:Nat) (hk:k ≤ 31) (z u:Int) (hz:0 ≤ z ∧ z < ((2 ^ k:Nat):Int)) (hu:0 ≤ u ∧ u < 4294967296) (hm:u.toNat % 2 ^ k = 0):Go.bits .or .u32 z u = z + u:=by
 have h2:2 ^ k ≤ 2 ^ 31:=Nat.pow_le_pow_right (by omega) hk
 have h3:(2 ^ 31:Nat) = 2147483648:=rfl
 rw [u32_or _ _ (by omega) (by omega) (by omega) (by omega),Nat.or_comm,nat_join k _ _ hm (by omega)]
 omega
theorem shl_parts (k:Nat) (hk:k ≤ 31) (x:Int) (hx:0 ≤ x ∧ x < 4294967296) :
  ∃ s:Int,IntKind.u64.wrap (x * 2 ^ k) = s ∧ 0 ≤ s ∧ s ≤ 9223372036854775807 ∧ s.toNat = x.toNat * 2 ^ k ∧ (s % 4294967296).toNat % 2 ^ k = 0 ∧ s / 4294967296 < ((2 ^ k:Nat):Int) ∧ s % 4294967296 ≤ 4294967296 - ((2 ^ k:Nat):Int):=by
 have h2:2 ^ k ≤ 2 ^ 31:=Nat.pow_le_pow_right (by omega) hk
 have h3:(2 ^ 31:Nat) = 2147483648:=rfl
 have hp:0 < 2 ^ k:=Nat.pow_pos (by omega)
 obtain ⟨n,rfl⟩:=Int.eq_ofNat_of_zero_le hx.1
 have hc:(n:Int) * 2 ^ k = ((n * 2 ^ k:Nat):Int):=by simp
 have hn:n < 4294967296:=by omega
 have hb:n * 2 ^ k ≤ 4294967295 * 2147483648:=Nat.mul_le_mul (by omega) (by omega)
 have hq:n * 2 ^ k / 4294967296 < 2 ^ k:=by
  rw [Nat.div_lt_iff_lt_mul (by omega),Nat.mul_comm]
  exact Nat.mul_lt_mul_of_pos_left hn hp
 have hd:(2 ^ k) ∣ 4294967296:=by
  have:(4294967296:Nat) = 2 ^ 32:=rfl
  rw [this]
  exact Nat.pow_dvd_pow 2 (by omega)
 have hm:n * 2 ^ k % 4294967296 % 2 ^ k = 0:=by
  rw [Nat.mod_mod_of_dvd _ hd]
  exact Nat.mul_mod_left n _
 have hmi:(((n * 2 ^ k:Nat):Int) % 4294967296).toNat = n * 2 ^ k % 4294967296:=by
  generalize n * 2 ^ k = N
  omega
 refine ⟨((n * 2 ^ k:Nat):Int),?_,by omega,by omega,by rw [Int.toNat_natCast,Int.toNat_natCast],by rw [hmi];exact hm,by omega,?_⟩
 ·rw [hc,IntKind.wrap_u64]
  exact Int.emod_eq_of_lt (by omega) (by omega)
 ·obtain ⟨m,hm2⟩:=hd
  have h4:n * 2 ^ k % 4294967296 ≤ 4294967296 - 2 ^ k:=by
   have h5:=Nat.div_add_mod (n * 2 ^ k % 4294967296) (2 ^ k)
   rw [hm,Nat.add_zero] at h5
   have h6:n * 2 ^ k % 4294967296 < 4294967296:=Nat.mod_lt _ (by omega)
   generalize n * 2 ^ k % 4294967296 = r at *
   generalize 2 ^ k = P at *
   rw [hm2] at h6 ⊢
   rw [← h5] at h6 ⊢
   have h7:r / P < m:=Nat.lt_of_mul_lt_mul_left h6
   have h8:P * (r / P + 1) ≤ P * m:=Nat.mul_le_mul_left _ h7
   rw [Nat.mul_add,Nat.mul_one] at h8
   omega
  omega
theorem leftIn_step {k:Nat} {l o:List Int} {i:Nat} {x s:Int} (hl:Limbs l) (hi:i < l.length) (hx:x = rd l (i:Int)) (h:LeftIn (2 ^ k) l i o)
  (hs:0 ≤ s ∧ s.toNat = x.toNat * 2 ^ k ∧ s / 4294967296 < ((2 ^ k:Nat):Int) ∧ s % 4294967296 ≤ 4294967296 - ((2 ^ k:Nat):Int)) (hk:k ≤ 31) :
  LeftIn (2 ^ k) l (i + 1) ((o.set i (rd o (i:Int) + s % 4294967296)).set (i + 1) (s / 4294967296)):=by
 obtain ⟨h1,h2,h3,h4,h5⟩:=h
 obtain ⟨s0,s1,s2,s3⟩:=hs
 have hr:=limbs_rd h2 (i:Int)
 have h2k:2 ^ k ≤ 2 ^ 31:=Nat.pow_le_pow_right (by omega) hk
 have h31:(2 ^ 31:Nat) = 2147483648:=rfl
 have hb:0 ≤ rd o (i:Int) + s % 4294967296 ∧ rd o (i:Int) + s % 4294967296 < 4294967296:=by omega
 have hlen:(o.set i (rd o (i:Int) + s % 4294967296)).length = o.length:=List.length_set
 refine ⟨by rw [List.length_set,List.length_set];exact h1,(h2.set _ hb).set _ (by omega),?_,?_,fun j hj=>?_⟩
 ·have a1:=val_set (o.set i (rd o (i:Int) + s % 4294967296)) (i + 1) (s / 4294967296) (by omega)
  have a2:=val_set o i (rd o (i:Int) + s % 4294967296) (by omega)
  rw [rd_set_ne _ (by omega),h5 (i + 1) (by omega)] at a1
  rw [val_take_succ l i hi,← hx,Nat.add_mul,← h3]
  have e1:(rd o (i:Int) + s % 4294967296).toNat = (rd o (i:Int)).toNat + (s % 4294967296).toNat:=by omega
  have e2:(s / 4294967296).toNat * 4294967296 + (s % 4294967296).toNat = x.toNat * 2 ^ k:=by omega
  rw [e1] at a2
  rw [Nat.pow_succ] at a1
  rw [show (0:Int).toNat = 0 from rfl,Nat.zero_mul,Nat.add_zero] at a1
  rw [Nat.add_mul] at a2
  have e3:x.toNat * 4294967296 ^ i * 2 ^ k = (x.toNat * 2 ^ k) * 4294967296 ^ i:=Nat.mul_right_comm _ _ _
  rw [e3,← e2,Nat.add_mul]
  have e4:(s / 4294967296).toNat * (4294967296 ^ i * 4294967296) = (s / 4294967296).toNat * 4294967296 * 4294967296 ^ i:=by
   rw [Nat.mul_comm (4294967296 ^ i),Nat.mul_assoc]
  rw [e4] at a1
  omega
 ·rw [rd_set_eq _ (by omega)]
  exact s2
 ·rw [rd_set_ne _ (by omega),rd_set_ne _ (by omega)]
  exact h5 j (by omega)
set_option maxHeartbeats 2000000 in
theorem left_calls (A:Option Addr) (c:Nat) (l:List Int) (k:Nat) (w:World) (hr:(Kd.int .u32).C w A l.length l) (hl:Limbs l) (hk:k ≤ 31) (hn:l.length ≤ 1099511627777) :
  Calls Tryz.prog 165 #[.slice A l.length c,.int .i64 (k:Int)] w fun e w'=>∃ v o,e = .returned v ∧ (Kd.int .u32).R 134 w' w.heap.size (fun _=>True) v o ∧ Below w.heap.size w w' ∧ LeftIn (2 ^ k) l l.length o:=by
 have HR:=Aside0.mk hr
 have HL:=Aside0.mk hl
 clear hr hl
 have hmk:∀ W:World,(Instr.makeSlice 117 (.int .i64 ((l.length:Int) + 1)) (.int .i64 ((l.length:Int) + 1))).run Tryz.prog W = .ok (.slice (some ⟨W.heap.size,0,none⟩) (l.length + 1) (l.length + 1)) (W.alloc (.cells (madeCells #[.int .u32 0] (l.length + 1)) 134)):=by
  intro W
  rw [show ((l.length:Int) + 1) = ((l.length + 1:Nat):Int) from by omega]
  exact print_make 117 134 .u32 4 Tryz.underlying117 infoU (by omega) _ (by omega) W
 have hO:=Aside0.mk (show (Kd.int .u32).R 134 (w.alloc (.cells (madeCells #[.int .u32 0] (l.length + 1)) 134)) w.heap.size (fun k=>k = w.heap.size) (.slice (some ⟨w.heap.size,0,none⟩) (l.length + 1) (l.length + 1)) (List.replicate (l.length + 1) 0) from
  Kd.R_of_own (by rw [List.length_replicate];exact own_made w w.heap.size 134 .u32 _ (Nat.le_refl _) (by omega)) (fun k hk=>by simpa [Value.ownBlock] using hk.symm))
 go_enter Tryz.func165,Tryz.ntmps165
 go_wp2
 go_loopg [15] l.length (fun g v15 w'=>∃ i:Nat,v15 = .int .i64 (i:Int) ∧ Aside0 (i + g = l.length) ∧ ∃ o:List Int,Aside0 (LeftIn (2 ^ k) l i o) ∧ Aside0 ((Kd.int .u32).R 134 w' w.heap.size (fun k=>k = w.heap.size) (.slice (some ⟨w.heap.size,0,none⟩) (l.length + 1) (l.length + 1)) o) ∧ Aside0 (Below w.heap.size w w'))
 case atStart =>
  refine ⟨0,rfl,⟨by omega⟩,_,⟨?_⟩,hO,⟨below_alloc (Below.refl _ _) _⟩⟩
  exact leftIn_start _ (Nat.pow_pos (by omega)) l
 case round =>
  clear hO
  obtain ⟨i,rfl,HI,o,HM,HO,HB⟩:=hrel
  by_cases hlt:i < l.length
  ·have hx0:=limbs_rd HL.out (i:Int)
   obtain ⟨x,hx⟩:∃ x,x = rd l (i:Int):=⟨_,rfl⟩
   rw [← hx] at hx0
   obtain ⟨ad,eA,hcx⟩:=Kd.at_int HR.out (i:Int) (by omega) (by omega)
   subst eA
   rw [Int.toNat_natCast,← hx] at hcx
   replace hcx:=(HB.out.cell (World.block_lt_of_cell? w _ hcx)).trans hcx
   have HXE:=Aside0.mk hx
   clear hx
   have hil:(i:Int) < (l.length:Int):=by omega
   have hol:=HM.out.1
   obtain ⟨hcz,hfz⟩:=Kd.R_celln 0 HO.out (i:Int) (by omega) (by omega)
   obtain ⟨hcy,hfy⟩:=Kd.R_celln 0 HO.out ((i + 1:Nat):Int) (by omega) (by omega)
   rw [Int.toNat_natCast] at hcz hfz hcy hfy
   obtain ⟨z,hz⟩:∃ z,z = rdOf 0 o (i:Int):=⟨_,rfl⟩
   rw [← hz] at hcz
   have hz0:0 ≤ z ∧ z < ((2 ^ k:Nat):Int):=⟨by rw [hz];exact (limbs_rd HM.out.2.1 _).1,by rw [hz];exact HM.out.2.2.2.1⟩
   obtain ⟨s,hs,s0,s1,s2,s3,s4,s5⟩:=shl_parts k hk x hx0
   obtain ⟨t,ht⟩:∃ t,t = z + s % 4294967296:=⟨_,rfl⟩
   have hor:Go.bits .or .u32 z (s % 4294967296) = t:=by rw [ht];exact or32_join k hk z _ hz0 (by omega) s3
   have HS:=Aside0.mk (show 0 ≤ s ∧ s.toNat = x.toNat * 2 ^ k ∧ s / 4294967296 < ((2 ^ k:Nat):Int) ∧ s % 4294967296 ≤ 4294967296 - ((2 ^ k:Nat):Int) from ⟨s0,s2,s4,s5⟩)
   have HZ:=Aside0.mk hz
   have HZ0:=Aside0.mk hz0
   have HT:=Aside0.mk ht
   have hq:(i:Int) < (l.length:Int) + 1:=by omega
   have HOL:=Aside0.mk hol
   clear s2 s3 s4 s5 hz ht hz0 hol
   go_wp2
   go_roundg (gk - 1)
   case measure=>have:=HI.out;omega
   case rel =>
    have hstep:=leftIn_step (s:=s) HL.out hlt HXE.out HM.out HS.out hk
    have hp1:=Kd.R_putg HO.out (i:Int) t
    have hp2:=Kd.R_putg hp1.1 ((i + 1:Nat):Int) (s / 4294967296)
    rw [Int.toNat_natCast] at hp1 hp2
    rw [Int.toNat_natCast] at hp2
    have e:(o.set i t).set (i + 1) (s / 4294967296) = (o.set i (rd o (i:Int) + s % 4294967296)).set (i + 1) (s / 4294967296):=by rw [HT.out,HZ.out];rfl
    exact ⟨i + 1,by go_num,⟨by have:=HI.out;omega⟩,_,⟨hstep⟩,⟨e ▸ hp2.1⟩,⟨below_set (below_set HB.out (Nat.le_refl _)) (Nat.le_refl _)⟩⟩
  ·have hie:i = l.length:=by have:=HI.out;omega
   subst hie
   go_wp2
   go_ret
   exact ⟨_,_,rfl,Kd.R_mono HO.out (fun _ _=>trivial),HB.out,HM.out⟩
end Go.Proofs.YtijldkknhphgcaaGreat.Hand
set_option linter.unusedVariables false
set_option linter.unusedSimpArgs false
namespace Go.Proofs.YtijldkknhphgcaaGreat.Hand
open Go.RowKit Go.Proofs.YtijldkknhphgcaaGreatW.PrintWords Go.Proofs.YtijldkknhphgcaaGreatW.PrintLast Go.Proofs.YtijldkknhphgcaaGreatW.PrintMore
end Go.Proofs.YtijldkknhphgcaaGreat.Hand
end
