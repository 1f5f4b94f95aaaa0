/- The walks in use. Conditions: none. -/
import Derived.Test.YtoeineoiofjfdaaQ7W3
