/- The walks in use. Conditions: none. -/
import Derived.Test.YtebfneaimafcoaaGreatQ4W9
