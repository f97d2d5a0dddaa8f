/- The plain functions, printed by gen.py. -/
import Derived.Test.YtdpokdaeekanjaaRkLgLit
import Derived.Test.YtdpokdaeekanjaaRkLgBitsP
import Derived.Test.YtdpokdaeekanjaaRkLgHistP
set_option linter.unusedVariables false
namespace Go.Lg
end Go.Lg
