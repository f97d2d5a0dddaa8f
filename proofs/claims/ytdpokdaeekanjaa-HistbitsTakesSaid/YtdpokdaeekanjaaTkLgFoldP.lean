/- The plain functions, printed by gen.py. -/
import Derived.Test.YtdpokdaeekanjaaTkLgLit
import Derived.Test.YtdpokdaeekanjaaTkLgBitsP
import Derived.Test.YtdpokdaeekanjaaTkLgHistP
set_option linter.unusedVariables false
namespace Go.Lg
end Go.Lg
