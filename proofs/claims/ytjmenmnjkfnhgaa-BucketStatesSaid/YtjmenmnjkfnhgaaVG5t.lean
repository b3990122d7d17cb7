import Derived.Test.YtjmenmnjkfnhgaaVG5s
import Derived.Test.YtjmenmnjkfnhgaaVC
import Derived.Test.YtjmenmnjkfnhgaaProg
set_option linter.unusedSimpArgs false
set_option linter.unusedVariables false
namespace Go.Proofs.YtjmenmnjkfnhgaaK
open Go Go.Proofs.YtjmenmnjkfnhgaaV Go.Proofs
-- function 29, callees []
def an29 : Ann := ⟨[], []⟩
def rs29 : List (Nat × RegT) := []
def t29 : T := (.ret [(.int .i64 (.int 1)), (.int .i64 (.ar .add .i64 (.int 1) (.wrap .i64 (.at 0)))), (.int .i64 (.ar .add .i64 (.int 1) (.wrap .i64 (.at 1)))), (.int .i64 (.ar .add .i64 (.int 1) (.wrap .i64 (.at 2)))), (.int .i64 (.int 0)), (.bool (.bool false))])
-- function 50, callees []
def an50 : Ann := ⟨[], []⟩
def rs50 : List (Nat × RegT) := []
def t50 : T := (.ret [(.int .i64 (.mx (.int 0) (.mn (.at 0) (.int 9007199254740992))))])
-- function 51, callees []
def an51 : Ann := ⟨[], []⟩
def rs51 : List (Nat × RegT) := []
def t51 : T := (.br (.cmp .geq (.at 0) (.at 1)) (.ret [(.bool (.cmp .leq (.at 0) (.at 2)))]) (.ret [(.bool (.bool false))]))
noncomputable def in67_76 : Inl × List (Nat × RegT) := (⟨76, Try.f76, code Try.f76, ⟨[], []⟩⟩, [])
-- function 67, callees [75, 77]
def an67 : Ann := ⟨[], []⟩
def rs67 : List (Nat × RegT) := []
def t67 : T := (.call 0 [(.int .i64 (.at 0)), (.int .i64 (.at 1)), (.int .i64 (.at 2))] (.br (.cmp .gtr (.at 4) (.int 0)) (.br (.at 5) (.br (.cmp .eql (.ar .shr .u64 (.at 3) (.int 63)) (.int 0)) (.call 1 [(.int .i64 (.wrap .i64 (.ar .add .u64 (.at 3) (.int 1)))), (.bool (.cmp .eql (.ar .shr .u64 (.ar .add .u64 (.at 3) (.int 1)) (.int 63)) (.int 0)))] (.ret [(.int .i64 (.at 6)), (.bool (.at 7))])) (.call 1 [(.int .i64 (.wrap .i64 (.ar .add .u64 (.at 3) (.int 1)))), (.bool (.bool false))] (.ret [(.int .i64 (.at 6)), (.bool (.at 7))]))) (.call 1 [(.int .i64 (.wrap .i64 (.ar .add .u64 (.at 3) (.int 1)))), (.bool (.bool false))] (.ret [(.int .i64 (.at 6)), (.bool (.at 7))]))) (.br (.at 5) (.br (.cmp .eql (.ar .shr .u64 (.at 3) (.int 63)) (.int 0)) (.call 1 [(.int .i64 (.wrap .i64 (.at 3))), (.bool (.cmp .eql (.ar .shr .u64 (.at 3) (.int 63)) (.int 0)))] (.ret [(.int .i64 (.at 6)), (.bool (.at 7))])) (.call 1 [(.int .i64 (.wrap .i64 (.at 3))), (.bool (.bool false))] (.ret [(.int .i64 (.at 6)), (.bool (.at 7))]))) (.call 1 [(.int .i64 (.wrap .i64 (.at 3))), (.bool (.bool false))] (.ret [(.int .i64 (.at 6)), (.bool (.at 7))])))))
-- function 68, callees [79, 78]
def an68 : Ann := ⟨[], []⟩
def rs68 : List (Nat × RegT) := []
def t68 : T := (.call 0 [(.int .i64 (.at 0))] (.call 0 [(.int .i64 (.at 1))] (.call 1 [(.int .u64 (.at 2)), (.int .u64 (.at 3))] (.br (.cmp .gtr (.at 4) (.int 0)) (.ret [(.int .i64 (.int 0)), (.bool (.bool false))]) (.br (.cmp .gtr (.at 5) (.int 9223372036854775808)) (.ret [(.int .i64 (.int 0)), (.bool (.bool false))]) (.br (.cmp .eql (.at 5) (.int 9223372036854775808)) (.br (.beq (.cmp .lss (.at 0) (.int 0)) (.cmp .lss (.at 1) (.int 0))) (.ret [(.int .i64 (.int 0)), (.bool (.bool false))]) (.ret [(.int .i64 (.wrap .i64 (.neg .u64 (.at 5)))), (.bool (.bool true))])) (.br (.beq (.cmp .lss (.at 0) (.int 0)) (.cmp .lss (.at 1) (.int 0))) (.ret [(.int .i64 (.wrap .i64 (.at 5))), (.bool (.bool true))]) (.ret [(.int .i64 (.wrap .i64 (.neg .u64 (.at 5)))), (.bool (.bool true))]))))))))
-- function 75, callees [78, 83]
def an75 : Ann := ⟨[], []⟩
def rs75 : List (Nat × RegT) := []
def t75 : T := (.br (.cmp .lss (.mn (.at 0) (.at 1)) (.int 0)) (.ret [(.int .u64 (.int 0)), (.int .u64 (.int 0)), (.bool (.bool false))]) (.br (.cmp .leq (.at 2) (.int 0)) (.ret [(.int .u64 (.int 0)), (.int .u64 (.int 0)), (.bool (.bool false))]) (.call 0 [(.int .u64 (.wrap .u64 (.at 0))), (.int .u64 (.wrap .u64 (.at 1)))] (.br (.cmp .geq (.at 3) (.wrap .u64 (.at 2))) (.ret [(.int .u64 (.int 0)), (.int .u64 (.int 0)), (.bool (.bool false))]) (.call 1 [(.int .u64 (.at 3)), (.int .u64 (.at 4)), (.int .u64 (.wrap .u64 (.at 2)))] (.ret [(.int .u64 (.at 5)), (.int .u64 (.at 6)), (.bool (.bool true))]))))))
-- function 77, callees []
def an77 : Ann := ⟨[], []⟩
def rs77 : List (Nat × RegT) := []
def t77 : T := (.br (.at 1) (.ret [(.int .i64 (.at 0)), (.bool (.bool true))]) (.ret [(.int .i64 (.int 0)), (.bool (.bool false))]))
-- function 78, callees []
def an78 : Ann := ⟨[], []⟩
def rs78 : List (Nat × RegT) := []
def t78 : T := (.ret [(.int .u64 (.ar .add .u64 (.ar .add .u64 (.ar .mul .u64 (.ar .shr .u64 (.at 0) (.int 32)) (.ar .shr .u64 (.at 1) (.int 32))) (.ar .shr .u64 (.ar .add .u64 (.ar .mul .u64 (.ar .shr .u64 (.at 0) (.int 32)) (.ar .and .u64 (.at 1) (.int 4294967295))) (.ar .shr .u64 (.ar .mul .u64 (.ar .and .u64 (.at 0) (.int 4294967295)) (.ar .and .u64 (.at 1) (.int 4294967295))) (.int 32))) (.int 32))) (.ar .shr .u64 (.ar .add .u64 (.ar .and .u64 (.ar .add .u64 (.ar .mul .u64 (.ar .shr .u64 (.at 0) (.int 32)) (.ar .and .u64 (.at 1) (.int 4294967295))) (.ar .shr .u64 (.ar .mul .u64 (.ar .and .u64 (.at 0) (.int 4294967295)) (.ar .and .u64 (.at 1) (.int 4294967295))) (.int 32))) (.int 4294967295)) (.ar .mul .u64 (.ar .and .u64 (.at 0) (.int 4294967295)) (.ar .shr .u64 (.at 1) (.int 32)))) (.int 32)))), (.int .u64 (.ar .mul .u64 (.at 0) (.at 1)))])
-- function 79, callees []
def an79 : Ann := ⟨[], []⟩
def rs79 : List (Nat × RegT) := []
def t79 : T := (.br (.cmp .lss (.at 0) (.int 0)) (.ret [(.int .u64 (.neg .u64 (.wrap .u64 (.at 0))))]) (.ret [(.int .u64 (.wrap .u64 (.at 0)))]))
-- function 21, callees []
def an21 : Ann := ⟨[(6, pl [(0, 0), (2, 0), (5, 0), (7, 0), (1, 1), (3, 0), (4, 1), (6, 1), (8, 0), (9, 1), (10, 0)] .nil)], [.inv [5] []]⟩
def rs21 : List (Nat × RegT) := [(6, ⟨(true, [([], []), ([0], [0]), ([], []), ([1, 2], [1, 2]), ([3], [3]), ([], []), ([5], [5]), ([], []), ([6, 7], [6, 7]), ([8], [8]), ([4, 9], [4, 9])]), [0, 1, 0, 7, 15, 0, 32, 0, 224, 480, 1023], []⟩)]
def t21 : T := (.br (.cmp .neq (.at 0) (.at 4)) (.ret [(.bool (.bool false))]) (.br (.cmp .neq (.at 1) (.at 5)) (.ret [(.bool (.bool false))]) (.br (.cmp .neq (.at 2) (.at 6)) (.ret [(.bool (.bool false))]) (.need (.kind .slc (.at 3)) (.need (.kind .slc (.at 7)) (.br (.cmp .neq (.len (.at 3)) (.len (.at 7))) (.ret [(.bool (.bool false))]) (.loop [(.int .i64)] [(.int .i64 (.int 0))] (.need (.kind .slc (.at 3)) (.br (.cmp .lss (.at 8) (.len (.at 3))) (.need (.kind .slc (.at 3)) (.need (.row (.at 3)) (.need (.tru (.cmp .leq (.int 0) (.at 8))) (.need (.kind .slc (.at 3)) (.need (.row (.at 3)) (.need (.sz (.at 3) 2) (.need (.kind (.int .i64) (.cell (.at 3) (.at 8) 0)) (.need (.kind (.int .i64) (.cell (.at 3) (.at 8) 1)) (.need (.kind .slc (.at 7)) (.need (.row (.at 7)) (.need (.tru (.cmp .lss (.at 8) (.len (.at 7)))) (.need (.kind .slc (.at 7)) (.need (.row (.at 7)) (.need (.sz (.at 7) 2) (.need (.kind (.int .i64) (.cell (.at 7) (.at 8) 0)) (.need (.kind (.int .i64) (.cell (.at 7) (.at 8) 1)) (.br (.ite (.cmp .eql (.cell (.at 3) (.at 8) 0) (.cell (.at 7) (.at 8) 0)) (.cmp .eql (.cell (.at 3) (.at 8) 1) (.cell (.at 7) (.at 8) 1)) (.bool false)) (.again 0 [(.int .i64 (.ar .add .i64 (.at 8) (.int 1)))]) (.pop 0 (.ret [(.bool (.bool false))]))))))))))))))))))) (.pop 0 (.ret [(.bool (.bool true))])))))))))))
-- function 83, callees [85]
def an83 : Ann := ⟨[(6, pl [(0, 0), (1, 0), (2, 0), (3, 0), (4, 0), (5, 0), (6, 0), (7, 0)] .nil)], []⟩
def rs83 : List (Nat × RegT) := [(6, ⟨(true, [([], []), ([], []), ([0, 1], [0, 1]), ([], []), ([], []), ([3, 4], [3, 4]), ([2, 0, 1, 2], [2]), ([5, 6, 0, 1, 2, 3, 4, 5, 6], [5])]), [0, 0, 3, 0, 0, 24, 7, 127], []⟩)]
def t83 : T := (.br (.cmp .eql (.at 2) (.int 0)) (.bad 1) (.br (.cmp .leq (.at 2) (.at 0)) (.bad 1) (.br (.cmp .eql (.at 0) (.int 0)) (.need (.tru (.cmp .neq (.at 2) (.int 0))) (.ret [(.int .u64 (.ar .quo .u64 (.at 1) (.at 2))), (.int .u64 (.ar .rem .u64 (.at 1) (.at 2)))])) (.call 0 [(.int .u64 (.at 2))] (.need (.tru (.cmp .geq (.wrap .u64 (.at 3)) (.int 0))) (.need (.tru (.cmp .geq (.ar .sub .u64 (.int 64) (.wrap .u64 (.at 3))) (.int 0))) (.need (.tru (.cmp .neq (.ar .shr .u64 (.ar .shl .u64 (.at 2) (.wrap .u64 (.at 3))) (.int 32)) (.int 0))) (.bad 32))))))))

end Go.Proofs.YtjmenmnjkfnhgaaK
