import Derived.Test.YtbcbjgomnhajdaaVC
set_option linter.unusedSimpArgs false
set_option linter.unusedVariables false
namespace Go.Proofs.YtbcbjgomnhajdaaK
open Go Go.Proofs.YtbcbjgomnhajdaaV
def sg3 : Sig := ⟨3, [none, some 4, some 4], false, [none], [.bool], []⟩
def pk3 : List RK := [.slc, (.int .i64), .str, (.int .i64), .slc, (.int .i64), .str, (.int .i64), .slc]
def sg4 : Sig := ⟨4, [some 4, some 4], false, [none], [.bool], []⟩
def pk4 : List RK := [(.int .i64), .str, (.int .i64), .slc, (.int .i64), .str, (.int .i64), .slc]
def sg5 : Sig := ⟨5, [none], false, [none], [(.int .i64)], []⟩
def pk5 : List RK := [.slc]
def sg6 : Sig := ⟨6, [], false, [none], [.bool], []⟩
def pk6 : List RK := []
def sg7 : Sig := ⟨7, [some 4], false, [some 4], [(.int .i64), .str, (.int .i64), .slc], []⟩
def pk7 : List RK := [(.int .i64), .str, (.int .i64), .slc]
def sg8 : Sig := ⟨8, [some 4, some 4], false, [none], [.bool], []⟩
def pk8 : List RK := [(.int .i64), .str, (.int .i64), .slc, (.int .i64), .str, (.int .i64), .slc]
def sg9 : Sig := ⟨9, [some 4], false, [some 4], [(.int .i64), .str, (.int .i64), .slc], []⟩
def pk9 : List RK := [(.int .i64), .str, (.int .i64), .slc]
def sg10 : Sig := ⟨10, [some 4], false, [none], [.bool], []⟩
def pk10 : List RK := [(.int .i64), .str, (.int .i64), .slc]
def sg11 : Sig := ⟨11, [none, none], false, [none], [.bool], []⟩
def pk11 : List RK := [.slc, .slc]
def sg12 : Sig := ⟨12, [none], false, [none], [.slc], []⟩
def pk12 : List RK := [.slc]
def sg13 : Sig := ⟨13, [none], false, [none], [.slc], []⟩
def pk13 : List RK := [.slc]
def sg14 : Sig := ⟨14, [some 4, some 4], false, [none], [.bool], []⟩
def pk14 : List RK := [(.int .i64), .str, (.int .i64), .slc, (.int .i64), .str, (.int .i64), .slc]
def sg15 : Sig := ⟨15, [none], false, [none], [.str], []⟩
def pk15 : List RK := [.str]
def sg16 : Sig := ⟨16, [none], false, [none], [(.int .i32)], []⟩
def pk16 : List RK := [(.int .i32)]
def sg17 : Sig := ⟨17, [none, none], false, [none], [.bool], []⟩
def pk17 : List RK := [.str, .str]
def sg18 : Sig := ⟨18, [none, none], false, [none], [.str], []⟩
def pk18 : List RK := [.str, .any]
def sg19 : Sig := ⟨19, [some 4], false, [none], [.str], []⟩
def pk19 : List RK := [(.int .i64), .str, (.int .i64), .slc]
def sg20 : Sig := ⟨20, [some 4], false, [none], [.str], []⟩
def pk20 : List RK := [(.int .i64), .str, (.int .i64), .slc]
def sg21 : Sig := ⟨21, [none, none], false, [none], [(.int .i64)], []⟩
def pk21 : List RK := [.str, .str]
def sg22 : Sig := ⟨22, [none], false, [none], [.str], []⟩
def pk22 : List RK := [(.int .i64)]
def sg23 : Sig := ⟨23, [none], false, [none], [.str], []⟩
def pk23 : List RK := [.str]
def sg24 : Sig := ⟨24, [none], false, [none], [.str], []⟩
def pk24 : List RK := [(.int .i64)]
def sg25 : Sig := ⟨25, [none], false, [none], [.str], []⟩
def pk25 : List RK := [.str]
def sg26 : Sig := ⟨26, [none, none], false, [none], [(.int .i64)], []⟩
def pk26 : List RK := [.str, (.int .i32)]
def sg27 : Sig := ⟨27, [none], false, [none], [.bool], []⟩
def pk27 : List RK := [(.int .i64)]
def sg28 : Sig := ⟨28, [none], true, [some 256, none], [.bool, .bool, .bool, .bool, .bool, .bool, .bool, .bool, .bool, .bool, .bool, .bool, .bool, .bool, .bool, .bool, .bool, .bool, .bool, .bool, .bool, .bool, .bool, .bool, .bool, .bool, .bool, .bool, .bool, .bool, .bool, .bool, .bool, .bool, .bool, .bool, .bool, .bool, .bool, .bool, .bool, .bool, .bool, .bool, .bool, .bool, .bool, .bool, .bool, .bool, .bool, .bool, .bool, .bool, .bool, .bool, .bool, .bool, .bool, .bool, .bool, .bool, .bool, .bool, .bool, .bool, .bool, .bool, .bool, .bool, .bool, .bool, .bool, .bool, .bool, .bool, .bool, .bool, .bool, .bool, .bool, .bool, .bool, .bool, .bool, .bool, .bool, .bool, .bool, .bool, .bool, .bool, .bool, .bool, .bool, .bool, .bool, .bool, .bool, .bool, .bool, .bool, .bool, .bool, .bool, .bool, .bool, .bool, .bool, .bool, .bool, .bool, .bool, .bool, .bool, .bool, .bool, .bool, .bool, .bool, .bool, .bool, .bool, .bool, .bool, .bool, .bool, .bool, .bool, .bool, .bool, .bool, .bool, .bool, .bool, .bool, .bool, .bool, .bool, .bool, .bool, .bool, .bool, .bool, .bool, .bool, .bool, .bool, .bool, .bool, .bool, .bool, .bool, .bool, .bool, .bool, .bool, .bool, .bool, .bool, .bool, .bool, .bool, .bool, .bool, .bool, .bool, .bool, .bool, .bool, .bool, .bool, .bool, .bool, .bool, .bool, .bool, .bool, .bool, .bool, .bool, .bool, .bool, .bool, .bool, .bool, .bool, .bool, .bool, .bool, .bool, .bool, .bool, .bool, .bool, .bool, .bool, .bool, .bool, .bool, .bool, .bool, .bool, .bool, .bool, .bool, .bool, .bool, .bool, .bool, .bool, .bool, .bool, .bool, .bool, .bool, .bool, .bool, .bool, .bool, .bool, .bool, .bool, .bool, .bool, .bool, .bool, .bool, .bool, .bool, .bool, .bool, .bool, .bool, .bool, .bool, .bool, .bool, .bool, .bool, .bool, .bool, .bool, .bool, .bool, .bool, .bool, .bool, .bool, .bool, .bool, .bool, .bool, .bool, .bool, .bool, .bool], []⟩
def pk28 : List RK := [.str]
def sg29 : Sig := ⟨29, [none, none], false, [none], [.bool], []⟩
def pk29 : List RK := [.any, (.int .u8)]
def sg30 : Sig := ⟨30, [none, none], false, [none], [(.int .i64)], []⟩
def pk30 : List RK := [.str, (.int .u8)]
def sg31 : Sig := ⟨31, [none], false, [none], [.bool], []⟩
def pk31 : List RK := [(.int .i32)]
def sg32 : Sig := ⟨32, [none], false, [none], [(.int .i64)], []⟩
def pk32 : List RK := [(.int .i64)]
-- 33: no body
def sg34 : Sig := ⟨34, [none, none], false, [none], [(.int .i64)], []⟩
def pk34 : List RK := [.str, (.int .u8)]
-- 35: no body
end Go.Proofs.YtbcbjgomnhajdaaK
