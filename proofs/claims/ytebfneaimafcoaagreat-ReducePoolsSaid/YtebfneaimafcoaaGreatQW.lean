/- The walks in use. Conditions: none. -/
import Derived.Test.YtebfneaimafcoaaGreatQ7W6
