/- The walks in use. Conditions: none. -/
import Derived.Test.YtoeineoiofjfdaaQ8W3
