/- Package due: what a pick keeps (in PickM). -/
import Derived.Test.YtciiookcdkjegaaTdue
import Derived.Test.YtciiookcdkjegaaPickM
