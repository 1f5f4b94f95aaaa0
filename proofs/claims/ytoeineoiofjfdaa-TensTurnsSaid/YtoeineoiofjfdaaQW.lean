/- The walks in use. Conditions: none. -/
import Derived.Test.YtoeineoiofjfdaaQ12W3
