/- The walks in use. Conditions: none. -/
import Derived.Test.YtoeineoiofjfdaaQ11W3
