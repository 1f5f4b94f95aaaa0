/- The walks in use. Conditions: none. -/
import Derived.Test.YtoeineoiofjfdaaQ9W3
