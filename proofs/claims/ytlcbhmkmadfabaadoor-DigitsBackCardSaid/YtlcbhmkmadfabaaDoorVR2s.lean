import Derived.Test.YtlcbhmkmadfabaaDoorVC
set_option linter.unusedSimpArgs false
set_option linter.unusedVariables false
namespace Go.Proofs.YtlcbhmkmadfabaaDoorK
open Go Go.Proofs.YtlcbhmkmadfabaaDoorV
def sg3 : Sig := ⟨3, [none, none], false, [none], [.bool], []⟩
def pk3 : List RK := [.str, .str]
def sg4 : Sig := ⟨4, [none], false, [none], [.bool], []⟩
def pk4 : List RK := [(.int .i64)]
def sg5 : Sig := ⟨5, [none, none], false, [none], [.bool], []⟩
def pk5 : List RK := [(.int .u32), (.int .u8)]
def sg6 : Sig := ⟨6, [none, none, none], false, [none], [.bool], []⟩
def pk6 : List RK := [.str, (.int .i64), (.int .i64)]
def sg7 : Sig := ⟨7, [none, none, none, none], false, [none], [.bool], []⟩
def pk7 : List RK := [(.int .i64), (.int .u8), (.int .i64), (.int .i64)]
def sg8 : Sig := ⟨8, [none, none, none, none, none], false, [none], [.bool], []⟩
def pk8 : List RK := [.str, (.int .i64), (.int .i64), (.int .u16), (.int .u16)]
def sg9 : Sig := ⟨9, [], false, [none], [.bool], []⟩
def pk9 : List RK := []
def sg10 : Sig := ⟨10, [none], true, [none, none], [(.int .i64), .bool], []⟩
def pk10 : List RK := [.str]
def sg11 : Sig := ⟨11, [none], false, [none], [.str], []⟩
def pk11 : List RK := [(.int .i64)]
def sg12 : Sig := ⟨12, [none], false, [none], [.str], []⟩
def pk12 : List RK := [(.int .i64)]
def sg13 : Sig := ⟨13, [none], false, [none], [(.int .i64)], []⟩
def pk13 : List RK := [(.int .i64)]
def sg14 : Sig := ⟨14, [none], true, [none, none], [(.int .i64), .bool], []⟩
def pk14 : List RK := [.str]
def sg15 : Sig := ⟨15, [none, none, none], true, [none, none], [(.int .i64), .bool], []⟩
def pk15 : List RK := [.str, (.int .i64), (.int .i64)]
def sg16 : Sig := ⟨16, [none, none, none], true, [none, none], [(.int .i64), .bool], []⟩
def pk16 : List RK := [.str, (.int .i64), (.int .i64)]
def sg17 : Sig := ⟨17, [none], true, [none, none], [(.int .i64), .ifc], []⟩
def pk17 : List RK := [.str]
def sg18 : Sig := ⟨18, [none], true, [none, none], [(.int .i64), .ifc], []⟩
def pk18 : List RK := [.str]
def sg19 : Sig := ⟨19, [none, none, none, none, none], false, [none], [.ifc], []⟩
def pk19 : List RK := [.str, .str, (.int .i64), (.int .i64), .ifc]
end Go.Proofs.YtlcbhmkmadfabaaDoorK
