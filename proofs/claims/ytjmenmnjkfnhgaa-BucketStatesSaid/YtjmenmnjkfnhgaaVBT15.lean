import Derived.Test.YtjmenmnjkfnhgaaVG5s
import Derived.Test.YtjmenmnjkfnhgaaVC
import Derived.Test.YtjmenmnjkfnhgaaProg
set_option linter.unusedSimpArgs false
set_option linter.unusedVariables false
set_option maxRecDepth 100000
namespace Go.Proofs.YtjmenmnjkfnhgaaK
open Go Go.Proofs.YtjmenmnjkfnhgaaV Go.Proofs
-- function 15, callees [28, 31, 38, 49, 21]
def an15 : Ann := ⟨[], []⟩
def rs15 : List (Nat × RegT) := []
def t15 : T := (.need (.kind .slc (.at 9)) (.br (.cmp .gtr (.len (.at 9)) (.int 150)) (.call 0 [] (.ret [(.bool (.at 15))])) (.call 1 [(.int .i64 (.at 0)), (.int .i64 (.at 1)), (.int .i64 (.at 2)), (.int .i64 (.at 3)), (.int .i64 (.at 4)), (.bool (.at 5)), (.int .i64 (.at 6)), (.int .i64 (.at 7)), (.int .i64 (.at 8)), (.slc (.at 9)), (.int .i64 (.at 10)), (.int .i64 (.at 11)), (.int .i64 (.at 12))] (.call 2 [(.int .i64 (.at 0)), (.int .i64 (.at 1)), (.int .i64 (.at 2)), (.int .i64 (.at 3)), (.int .i64 (.at 4)), (.bool (.at 5)), (.int .i64 (.at 6)), (.int .i64 (.at 7)), (.int .i64 (.at 8)), (.slc (.at 9)), (.int .i64 (.at 10)), (.int .i64 (.at 11)), (.int .i64 (.at 12))] (.call 3 [(.int .i64 (.at 0)), (.int .i64 (.at 1)), (.int .i64 (.at 2)), (.int .i64 (.at 3)), (.int .i64 (.at 4)), (.bool (.at 5)), (.int .i64 (.at 6)), (.int .i64 (.at 7)), (.int .i64 (.at 8)), (.slc (.at 9)), (.int .i64 (.at 6)), (.int .i64 (.at 7)), (.int .i64 (.at 8)), (.slc (.at 9)), (.int .i64 (.at 13)), (.int .i64 (.at 14))] (.br (.at 25) (.call 4 [(.int .i64 (.at 15)), (.int .i64 (.at 16)), (.int .i64 (.at 17)), (.slc (.at 18)), (.int .i64 (.at 20)), (.int .i64 (.at 21)), (.int .i64 (.at 22)), (.slc (.at 23))] (.br (.at 26) (.br (.beq (.at 19) (.at 24)) (.call 0 [] (.ret [(.bool (.at 27))])) (.ret [(.bool (.bool false))])) (.ret [(.bool (.bool false))]))) (.ret [(.bool (.bool false))])))))))
end Go.Proofs.YtjmenmnjkfnhgaaK
