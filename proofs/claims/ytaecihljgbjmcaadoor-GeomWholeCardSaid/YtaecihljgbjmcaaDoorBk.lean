/- assentbook.Within stands in A2 here. -/
import Derived.Test.YtaecihljgbjmcaaDoorA2
