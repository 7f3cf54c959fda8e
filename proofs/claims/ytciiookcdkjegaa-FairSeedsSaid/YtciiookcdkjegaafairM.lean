/- Package fair: what a pick keeps (in PickM). -/
import Derived.Test.YtciiookcdkjegaaTfair
import Derived.Test.YtciiookcdkjegaaPickM
