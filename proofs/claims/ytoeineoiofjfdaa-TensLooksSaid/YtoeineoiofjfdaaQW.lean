/- The walks in use. Conditions: none. -/
import Derived.Test.YtoeineoiofjfdaaQ10W3
