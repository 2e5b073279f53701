/- (What stood here stands in Kit now.) -/
import Derived.Test.YtodicnjoimoiiaaRowE
